/-
  Walks: the reference of layer 5: last, Group.
-/
import Derived.Test.YtphcebgpllecjaaGreatDoorC14
set_option linter.unusedVariables false
set_option linter.unusedSimpArgs false
namespace Go.Proofs.YtphcebgpllecjaaGreatDoor
open Go.RowKit Go.Inq
set_option maxHeartbeats 4000000
attribute [local go_sem ↓] Go.wp_at_zero Go.wp_at_succ

def lastV (L : List Tx) (s : Int) : Int := match lastIx L s with | some k => k | none => -1
theorem lastV_of {L : List Tx} {s : Int} {k : Nat} (h : lastIx L s = some k) : lastV L s = k := by unfold lastV; rw [h]
theorem lastV_none {L : List Tx} {s : Int} (h : lastIx L s = none) : lastV L s = -1 := by unfold lastV; rw [h]
theorem last05_any (A : Option Addr) (c : Nat) (L : List Tx) (s : Int) (K : Nat → Prop) (w : World) (h : TxS w K (.slice A L.length c) L) (hn : L.length ≤ 1000000) :
    Calls Tryz.prog 39 #[.slice A L.length c, .int .i64 s] w fun e w' => e = .returned (.int .i64 (lastV L s)) ∧ w = w' := by
  have hst := hide (fun n hn => lastTo_step (l := L) (s := s) (n := n) hn)
  have h0 : Hid (lastIx L s = lastTo L s L.length) := by unfold Hid lastTo; rw [List.take_length]
  have hl1 : (0 : Int) ≤ (L.length : Int) := Int.natCast_nonneg _
  have hw0 : IntKind.i64.wrap ((L.length : Int) - 1) = (L.length : Int) - 1 := by rw [IntKind.wrap_i64]; omega
  go_enter Tryz.func39, Tryz.ntmps39
  go_wp2_with fail
  go_loop [5] (fun s5 => ∃ z : Int, -1 ≤ z ∧ z < (L.length : Int) ∧ s5 = .int .i64 z ∧ Hid (lastIx L s = lastTo L s (z + 1).toNat)) (fun s5 => (intOf s5 + 1).toNat)
  case atStart => exact ⟨(L.length : Int) - 1, by omega, by omega, rfl, by rw [show ((L.length : Int) - 1 + 1).toNat = L.length by omega]; exact h0⟩
  case round =>
    obtain ⟨z, hz1, hz2, rfl, hl⟩ := hrel
    clear hw0
    by_cases hz : 0 ≤ z
    · have hzb : decide (z ≥ 0) = true := by simpa using hz
      have hzl : z.toNat < L.length := by omega
      obtain ⟨b, off, _, _, rfl, _, d0, _⟩ := TxS.at_ h hzl
      have hs2 := hst.out z.toNat hzl
      have hq : (z + 1).toNat = z.toNat + 1 := by omega
      have hl2 := hl.out
      rw [hq, hs2] at hl2
      clear hl hs2 hq
      have hzn : ((z.toNat : Nat) : Int) = z := by omega
      generalize L[z.toNat].sess = ss at *
      by_cases he : ss = s
      · rw [if_pos he] at hl2
        have hb : (ss == s) = true := by simpa using he
        have hr := hide ((lastV_of hl2).trans hzn)
        clear hl2 he hzn
        go_wp2
        go_ret
        exact ⟨by rw [hr.out]; rfl, rfl⟩
      · rw [if_neg he] at hl2
        have hb : (ss == s) = false := by simpa using he
        have hl3 : Hid (lastIx L s = lastTo L s (z - 1 + 1).toNat) := by rw [show z - 1 + 1 = z by omega]; exact hl2
        clear hl2 he hzn
        go_wp2
        go_round
        case rel => exact ⟨z - 1, by omega, by omega, rfl, hl3⟩
        case measure => simp [intOf]; omega
    · have hzb : decide (z ≥ 0) = false := by simpa using hz
      obtain rfl : z = -1 := by omega
      have hr := hide (lastV_none (L := L) (s := s) (by rw [hl.out]; rfl))
      go_wp2
      go_ret
      exact ⟨by rw [hr.out]; rfl, rfl⟩
theorem infoG05 : (Tryz.prog.info? 54).map (fun i => (i.zero, i.size, i.bytes)) = some (some (.agg #[.int .i64 0, .bool false, .int .i64 0, .slice none 0 0]), 4, 48) := by kernel_rfl
theorem infoB05 : (Tryz.prog.info? 4).map (fun i => (i.zero, i.size, i.bytes)) = some (some (.bool false), 1, 1) := by kernel_rfl
def encB5 (b : Bool) : List Value := [.bool b]
theorem encB5_one : ∀ (x : Bool), ∀ u ∈ encB5 x, u.oneCell' = true := by intro x u hu; simp [encB5] at hu; subst hu; rfl
theorem at_lookup (G : Grp) (s : Int) : G.at_ s = match lastIx G.out s with | some k => if G.opn[k]? = some true then some k else none | none => none := rfl
theorem bools_set (l : List Bool) (k : Nat) (b : Bool) : ((l.set k b).map encB5).flatten = ((l.map encB5).flatten).set k (.bool b) := by
  have e : ∀ l : List Bool, (l.map encB5).flatten = l.map Value.bool := fun l => by
    induction l with
    | nil => rfl
    | cons x r ih => rw [List.map_cons, List.flatten_cons, ih]; rfl
  rw [e, e, List.map_set]
theorem bools_at (l : List Bool) (k : Nat) : ((l.map encB5).flatten)[k]? = (l[k]?).map Value.bool := by
  have e : ∀ l : List Bool, (l.map encB5).flatten = l.map Value.bool := fun l => by
    induction l with
    | nil => rfl
    | cons x r ih => rw [List.map_cons, List.flatten_cons, ih]; rfl
  rw [e, List.getElem?_map]
/-- The row of marks lies apart from the transactions. -/
def ApartB (vb v : Value) (vs : List Value) : Prop := ∀ g, vb.ownBlock = some g → v.ownBlock ≠ some g ∧ ∀ (i : Nat) (vo : Value), vs[i]? = some vo → vo.ownBlock ≠ some g
/-- append(out, T{..}): one transaction more, without ops. -/
theorem wpList_append_nestB {P : Program} {w : World} {ops : Array Oper} {rest : List Oper} {o : Oper} {a : Act} {Q : Exit → Act → World → Prop}
    (hgd : o.guard = none) (s x : Operand) (t : TypeId) (ho : o.op = .call { callee := .builtin .append, args := #[s, x], argTypes := #[t, t] })
    (base : Nat) (T E : TypeId) (i : TypeInfo) (z : Value) (bytes : Nat) (ht : P.underlying t = some (.slice T)) (hi : P.info? T = some i) (hz : i.zero = some z)
    (hsize : i.size = 4) (hby : i.bytes = bytes) (hzs : z.cells.size = 4)
    (v : Value) (L : List Tx) (vs : List Value) (hs : a.eval s = v) (hN : NestT w base T E v L vs)
    (t0 : Tx) (ht0 : t0.ops = []) (g : Nat) (hx : a.eval x = .slice (some ⟨g, 0, none⟩) 1 1) (hb : Blk w g T #[.int .i64 t0.sess, .bool t0.done, .int .i64 t0.first, .slice none 0 0])
    (h63 : L.length + 1 ≤ maxLen) (hbytes : (L.length + 1) * bytes ≤ 140737488355328) (hbase : base ≤ w.heap.size)
    (h : ∀ v' w', NestT w' base T E v' (L ++ [t0]) (vs ++ [.slice none 0 0]) → w.grownBy w' v.ownBlock → (v'.ownBlock = v.ownBlock ∨ v'.ownBlock = some w.heap.size) → wpList P ops Q rest (a.put o.dst v') w') :
    wpList P ops Q (o :: rest) a w := by
  have hl : (chunksT L vs).length = L.length := by simp [chunksT, hN.len]
  refine wpList_append_list (R := RawR) hgd s x t ho base T i z 4 bytes ht hi hz hsize hby hzs (by decide) v (fun _ => True) (chunksT L vs) hs hN.own _ [[.int .i64 t0.sess, .bool t0.done, .int .i64 t0.first, .slice none 0 0]] hx
    (SlR.one hb rfl ⟨rfl, fun u hu => ?_⟩ trivial) (fun cs x hr => hr.2) (by rw [hl]; exact h63) (by rw [hl]; exact hbytes) hbase (fun w' _ cs x hr => hr) fun v' w' hown hg hat => h v' w' (hN.snoc ht0 ?_ hg hat) hg hat
  · simp at hu
    rcases hu with rfl | rfl | rfl | rfl <;> rfl
  · obtain ⟨ys, h1, h2, h3⟩ := hown
    have : ys = chunksT L vs ++ [[.int .i64 t0.sess, .bool t0.done, .int .i64 t0.first, .slice none 0 0]] := by
      refine List.ext_getElem h2 fun j g1 g2 => ?_
      exact (h3 j _ _ (List.getElem?_eq_getElem g1) (List.getElem?_eq_getElem g2)).2.1
    rw [this] at h1
    rw [List.length_append, hl, List.flatten_append, show (chunksT L vs).flatten = cellsT L vs from rfl] at h1
    simpa using h1
theorem setCell_grown (w : World) (p : Addr) (u : Value) : w.grownBy (w.setCell p u) (some p.block) := ⟨rfl, rfl, rfl, by rw [World.size_setCell]; exact Nat.le_refl _, fun k _ hk => Below.heap_setCell w p u k (fun e => hk (by rw [e]))⟩
theorem nest_off {w w' : World} {base : Nat} {T E : TypeId} {v : Value} {L : List Tx} {vs : List Value} {row : Option Nat} (h : NestT w base T E v L vs) (hg : w.grownBy w' row)
    (hr : ∀ g, row = some g → v.ownBlock ≠ some g ∧ ∀ (i : Nat) (vo : Value), vs[i]? = some vo → vo.ownBlock ≠ some g) : NestT w' base T E v L vs := by
  have hk : ∀ u : Value, (∀ g, row = some g → u.ownBlock ≠ some g) → u.ownBlock = none ∨ u.ownBlock ≠ row := fun u hu => by
    cases hq : u.ownBlock with
    | none => exact .inl rfl
    | some g => exact .inr fun e => hu g e.symm hq
  exact ⟨h.len, h.row.kept hg (hk v fun g e => (hr g e).1), fun i vo t h1 h2 => (h.ops i vo t h1 h2).kept hg (hk vo fun g e => (hr g e).2 i vo h1), h.out, h.apart⟩
theorem ApartB.row {vb v : Value} {vs : List Value} (h : ApartB vb v vs) : vb.ownBlock = none ∨ vb.ownBlock ≠ v.ownBlock := by
  cases hq : vb.ownBlock with
  | none => exact .inl rfl
  | some g => exact .inr fun e => (h g hq).1 e.symm
theorem ApartB.op {vb v : Value} {vs : List Value} (h : ApartB vb v vs) {i : Nat} {vo : Value} (hi : vs[i]? = some vo) : vb.ownBlock = none ∨ vb.ownBlock ≠ vo.ownBlock := by
  cases hq : vb.ownBlock with
  | none => exact .inl rfl
  | some g => exact .inr fun e => (h g hq).2 i vo hi e.symm
set_option maxRecDepth 100000 in
theorem rgroup5_any (l : List Ev) (A : Option Addr) (c : Nat) (w : World) (h : EvS w (Old w) (.slice A l.length c) l) (hn : l.length ≤ 1000) :
    Calls Tryz.prog 17 #[.slice A l.length c] w (GrpOut (groupR l) w) := by
  obtain ⟨ig, hig, hig1, hig2, hig3⟩ := info_parts infoG05
  obtain ⟨ie, hie, hie1, hie2, hie3⟩ := info_parts infoE5
  obtain ⟨ib, hib, hib1, hib2, hib3⟩ := info_parts infoB05
  have hbad := hide (fun i => groupR_bad (l := l) (i := i))
  have hgood := hide (groupR_good (l := l))
  have hlen := hide (grpTo_len l)
  have hopl := hide (grpTo_ops l)
  go_enter Tryz.func17, Tryz.ntmps17
  go_wp2_with fail
  go_loopw [5, 6, 7] (fun s5 s6 s7 wr => ∃ (i : Nat) (v vb : Value) (vs : List Value), i ≤ l.length ∧ s7 = .int .i64 i ∧ v = s5 ∧ vb = s6 ∧ NestT wr w.heap.size 54 56 v (grpTo l i).out vs ∧ (grpTo l i).out.length ≤ i ∧
    wr.ownsRow w.heap.size 4 1 vb (grpTo l i).opn.length (((grpTo l i).opn.map encB5)).flatten ∧ ApartB vb v vs ∧ Hid (∀ j, j < i → grpBad l j = 0) ∧ Below w.heap.size w wr) (fun _ _ s7 _ => l.length - (intOf s7).toNat)
  case atStart => exact ⟨0, _, _, [], Nat.zero_le _, by go_num, rfl, rfl, NestT.nil _ _ _ _, Nat.zero_le _, World.ownsRow_nil _ _ _ _, fun g h => (by cases h), fun j h => absurd h (by omega), Below.refl _ _⟩
  case round =>
    obtain ⟨i, v, vb, vs, hi, rfl, rfl, rfl, hnest, hol, hob, hap, hall, hb⟩ := hrel
    have hi1 : (0 : Int) ≤ (i : Int) := Int.natCast_nonneg _
    by_cases hlt : i < l.length
    · have hi2 : (i : Int) < (l.length : Int) := by omega
      obtain ⟨b, off, rfl, hbK, d0, d1, d2, d3⟩ := EvS.at_ (EvS.keep h (Agree.below hb fun b h => h) (fun b h => h)) hlt
      have hop := grpBad_at hlt
      have hnx := grpTo_step hlt
      have hbd := hide (fun hx => hbad.out i hlt hall.out hx)
      have hst : grpBad l i = 0 → ∀ j, j < i + 1 → grpBad l j = 0 := fun g j hj => by
        by_cases hji : j = i
        · subst hji; exact g
        · exact hall.out j (by omega)
      have hgl := hlen.out i
      have hol2 := hide (hopl.out i)
      generalize grpBad l i = ge at *
      generalize hGe : grpTo l (i + 1) = G2 at *
      replace hGe := hide hGe
      generalize grpTo l i = G at *
      generalize l[i] = e at *
      replace hnx := hide hnx
      replace hst := hide hst
      replace hgl := hide hgl
      have hbx : Below wr.heap.size wr (wr.alloc (.cells #[.int .i64 e.kind, .int .i64 e.sess, .int .i64 e.key, .int .i64 e.val] 56)) := (Below.refl _ _).alloc (Nat.le_refl _) _
      have kE : Blk (wr.alloc (.cells #[.int .i64 e.kind, .int .i64 e.sess, .int .i64 e.key, .int .i64 e.val] 56)) wr.heap.size 56 #[.int .i64 e.kind, .int .i64 e.sess, .int .i64 e.key, .int .i64 e.val] := Blk.new _ _ _
      go_wp2_with fail
      refine (rright_any e _).mono ?_
      rintro e' w2 ⟨rfl, hb1⟩
      have hbw := hbx.trans (hb1.mono hbx.size)
      have kE2 := kE.below hb1 kE.lt
      have hvlt := hide hnest.lt
      have hblt := hide (fun g hg => hob.lt g hg)
      replace hnest := hnest.below hbw (Nat.le_refl _)
      replace hob := own_below hob hbw (Nat.le_refl _)
      have hb2 := hb.trans (hbw.mono hb.size)
      have hNs : wr.heap.size < w2.heap.size := kE2.lt
      have c0 := kE2.cell 0
      have c1 := kE2.cell 1
      have c2 := kE2.cell 2
      have c3 := kE2.cell 3
      simp only [List.getElem?_toArray, List.getElem?_cons_zero, List.getElem?_cons_succ] at c0 c1 c2 c3
      clear hb1 hbx hb kE d0 d1 d2 d3 hall hbw
      dsimp only
      cases hrt : e.right with
      | false =>
        have hop : ge = 1 := by rw [hop]; unfold Grp.bad; rw [if_pos hrt]
        clear hrt kE2
        have hr := hbd.out (by rw [hop]; decide)
        rw [hop] at hr
        replace hr := hide hr
        clear hop hbd hst hnx hnest
        go_wp2
        go_ret3
        exact ⟨.slice none 0 0, by rw [hr.out]; rfl, by rw [hr.out]; exact SlR.nil _ _ _ _ _ _, hb2⟩
      | true =>
        have hkd := right_kind hrt
        obtain ⟨Av, cv, rfl⟩ := hnest.form
        have hc := last05_any Av cv G.out e.sess _ w2 hnest.txs (by omega)
        cases hl : lastIx G.out e.sess with
        | none =>
          have ha : G.at_ e.sess = none := by rw [at_lookup, hl]
          rw [lastV_none hl] at hc
          clear hl
          go_wp2_with fail
          refine hc.mono ?_
          clear hc
          rintro e3 w3 ⟨rfl, rfl⟩
          by_cases hk0 : e.kind = 0
          · have hkb : (e.kind == 0) = true := by simpa using hk0
            by_cases h32 : G.out.length = 32
            · have hop : ge = 4 := by rw [hop]; unfold Grp.bad; rw [if_neg (by simp [hrt]), if_pos hk0, ha, if_neg (by simp), if_pos h32]
              have h32b : ((G.out.length : Int) == 32) = true := by simpa using (by omega : (G.out.length : Int) = 32)
              have h32c : (G.out.length == 32) = true := by simpa using h32
              clear hrt kE2 ha hk0 h32
              have hr := hbd.out (by rw [hop]; decide)
              rw [hop] at hr
              replace hr := hide hr
              clear hop hbd hst hnx hnest
              go_wp2
              go_ret3
              exact ⟨.slice none 0 0, by rw [hr.out]; rfl, by rw [hr.out]; exact SlR.nil _ _ _ _ _ _, hb2⟩
            · have hop : ge = 0 := by rw [hop]; unfold Grp.bad; rw [if_neg (by simp [hrt]), if_pos hk0, ha, if_neg (by simp), if_neg h32]
              have hst2 := hide (hst.out hop)
              have hG2 := hide (show G2.out = G.out ++ [⟨e.sess, false, i, []⟩] from by rw [hnx.out]; unfold Grp.next; rw [if_pos hk0])
              have hG3 := hide (show G2.opn = G.opn ++ [true] from by rw [hnx.out]; unfold Grp.next; rw [if_pos hk0])
              have h32b : ((G.out.length : Int) == 32) = false := by simpa using (by omega : ¬ (G.out.length : Int) = 32)
              have h32c : (G.out.length == 32) = false := by simpa using h32
              have kT : Blk (w2.alloc (.cells #[.int .i64 e.sess, .bool false, .int .i64 i, .slice none 0 0] 54)) w2.heap.size 54 _ := Blk.new _ _ _
              have hn5 := hnest.alloc (.cells #[.int .i64 e.sess, .bool false, .int .i64 i, .slice none 0 0] 54)
              have ho5 := hob.alloc (.cells #[.int .i64 e.sess, .bool false, .int .i64 i, .slice none 0 0] 54)
              have hb5 := hb2.alloc hb2.size (.cells #[.int .i64 e.sess, .bool false, .int .i64 i, .slice none 0 0] 54)
              have hs5 : w.heap.size ≤ (w2.alloc (.cells #[.int .i64 e.sess, .bool false, .int .i64 i, .slice none 0 0] 54)).heap.size := hb5.size
              have hapr := hide (fun vb v vs => @ApartB.row vb v vs)
              have hgo := hide hgl.out
              have hol9 : G.opn.length ≤ 1000 := by have := hgl.out; omega
              have hapH := hide hap
              clear hop hst hnx hbd hrt ha hk0 h32 hnest hob hb2 kE2
              go_upto_region 18 with (at_builtin; refine wpList_append_nestB rfl (.tmp 48) (.tmp 53) 50 rfl w.heap.size 54 56 ig _ 48 Tryz.underlying50 hig hig1 hig2 hig3 rfl (.slice Av G.out.length cv) G.out vs rfl hn5 ⟨e.sess, false, i, []⟩ rfl w2.heap.size rfl kT (by simp [maxLen]; omega) (by omega) hs5 ?_; intro v6 W6 hn6 hgrow6 hat6)
              have ho6 := ho5.kept hgrow6 (hapr.out _ _ _ hapH.out)
              have hb6 := hb5.grown hgrow6 hs5 (fun q hq => (hvlt.out q hq).1)
              have hbl6 := hide (fun q hq => (ho5.lt q hq).2)
              have ho7 := ho6.alloc (.cells #[.bool true] 4)
              have hn7 := hn6.alloc (.cells #[.bool true] 4)
              have hb7 := hb6.alloc hb6.size (.cells #[.bool true] 4)
              have hs7 : w.heap.size ≤ (W6.alloc (.cells #[.bool true] 4)).heap.size := hb7.size
              have kN := hide (show SlR 1 (Flat encB5) (W6.alloc (.cells #[.bool true] 4)) (fun _ => True) (.slice (some ⟨W6.heap.size, 0, none⟩) 1 1) [true] from SlR.one (R := Flat encB5) (size := 1) (K := fun _ => True) (x := true) (w := W6.alloc (.cells #[.bool true] 4)) (Blk.new W6 4 #[.bool true]) rfl rfl trivial)
              clear hn5 ho5 hb5 kT hs5
              go_wp2_with (at_builtin; refine wpList_append_flat (enc := encB5) rfl (.tmp 55) (.tmp 56) 93 rfl w.heap.size 4 ib _ 1 1 Tryz.underlying93 hib hib1 hib2 hib3 rfl (by decide) _ (fun _ => True) G.opn rfl ho7 (fun _ => rfl) _ [true] rfl kN.out encB5_one (by simp [maxLen]; omega) (by simp; omega) hs7 ?_; intro v8 W8 ho8 hgrow8 hat8)
              have hgs := hgrow6.size
              have hapN : ApartB vb v6 (vs ++ [.slice none 0 0]) := fun q hq => by
                have hql := hbl6.out q hq
                refine ⟨?_, fun j vo hj => ?_⟩
                · rcases hat6 with e | e
                  · rw [e]; exact (hapH.out q hq).1
                  · rw [e]; intro e2; injection e2 with e2; omega
                · rcases Nat.lt_or_ge j vs.length with g | g
                  · rw [List.getElem?_append_left g] at hj; exact (hapH.out q hq).2 j vo hj
                  · rw [List.getElem?_append_right g] at hj
                    cases hqq : j - vs.length with
                    | zero => rw [hqq] at hj; simp at hj; subst hj; intro e; cases e
                    | succ m => rw [hqq] at hj; simp at hj
              have hn8 := nest_off hn7 hgrow8 (fun q e => hapN q e)
              have hap8 : ApartB v8 v6 (vs ++ [.slice none 0 0]) := fun q hq => by
                rcases hat8 with e | e
                · rw [e] at hq; exact hapN q hq
                · rw [e] at hq
                  injection hq with hq
                  refine ⟨fun e2 => ?_, fun j vo hj e2 => ?_⟩
                  · have := (hn7.lt _ e2).2; omega
                  · obtain ⟨u, hu⟩ := hn7.at2 hj
                    have := ((hn7.ops j vo u hj hu).lt q e2).2
                    omega
              have hb8 := hb7.grown hgrow8 hs7 (fun q hq => (ho7.lt q hq).1)
              go_roundw
              case rel =>
                obtain rfl := hGe.out
                exact ⟨i + 1, v6, v8, _, by omega, by go_num, rfl, rfl, by rw [hG2.out]; exact hn8, by rw [hG2.out]; simp; omega, by rw [hG3.out]; exact ho8, hap8, hst2, hb8⟩
              case measure => simp [intOf]; omega
          · have hkb : (e.kind == 0) = false := by simpa using hk0
            have hop : ge = 6 := by rw [hop]; unfold Grp.bad; rw [if_neg (by simp [hrt]), if_neg hk0, ha]; rfl
            clear hrt kE2 ha hk0
            have hr := hbd.out (by rw [hop]; decide)
            rw [hop] at hr
            replace hr := hide hr
            clear hop hbd hst hnx hnest
            go_wp2
            go_ret3
            exact ⟨.slice none 0 0, by rw [hr.out]; rfl, by rw [hr.out]; exact SlR.nil _ _ _ _ _ _, hb2⟩
        | some k =>
          rw [lastV_of hl] at hc
          obtain ⟨hkl, _⟩ := lastIx_lt hl
          have hko : k < G.opn.length := by rw [← hgl.out]; exact hkl
          have hat := at_lookup G e.sess
          rw [hl] at hat
          dsimp only at hat
          have hk1 : (0 : Int) ≤ (k : Int) := Int.natCast_nonneg _
          have hk2 : (k : Int) < (G.opn.length : Int) := by omega
          obtain ⟨gb, cb, rfl⟩ : ∃ gb cb, vb = .slice (some ⟨gb, 0, none⟩) G.opn.length cb := by
            rcases hob.2 with ⟨_, h0⟩ | ⟨g, cap, cur, hv, _⟩
            · omega
            · exact ⟨g, cap, hv⟩
          have hcb := hob.cellAt k (by omega)
          rw [bools_at, List.getElem?_eq_getElem hko] at hcb
          rw [List.getElem?_eq_getElem hko] at hat
          clear hl
          generalize G.opn[k] = ob at *
          replace hgl := hide hgl.out
          cases ob with
          | false =>
            have ha : G.at_ e.sess = none := by rw [hat]; simp
            replace hcb : w2.cell? ⟨gb, k, none⟩ = some (.bool false) := hcb
            clear hat
            go_wp2_with fail
            refine hc.mono ?_
            clear hc
            rintro e3 w3 ⟨rfl, rfl⟩
            by_cases hk0 : e.kind = 0
            · have hkb : (e.kind == 0) = true := by simpa using hk0
              by_cases h32 : G.out.length = 32
              · have hop : ge = 4 := by rw [hop]; unfold Grp.bad; rw [if_neg (by simp [hrt]), if_pos hk0, ha, if_neg (by simp), if_pos h32]
                have h32b : ((G.out.length : Int) == 32) = true := by simpa using (by omega : (G.out.length : Int) = 32)
                have h32c : (G.out.length == 32) = true := by simpa using h32
                clear hrt kE2 ha hk0 h32
                have hr := hbd.out (by rw [hop]; decide)
                rw [hop] at hr
                replace hr := hide hr
                clear hop hbd hst hnx hnest
                go_wp2
                go_ret3
                exact ⟨.slice none 0 0, by rw [hr.out]; rfl, by rw [hr.out]; exact SlR.nil _ _ _ _ _ _, hb2⟩
              · have hop : ge = 0 := by rw [hop]; unfold Grp.bad; rw [if_neg (by simp [hrt]), if_pos hk0, ha, if_neg (by simp), if_neg h32]
                have hst2 := hide (hst.out hop)
                have hG2 := hide (show G2.out = G.out ++ [⟨e.sess, false, i, []⟩] from by rw [hnx.out]; unfold Grp.next; rw [if_pos hk0])
                have hG3 := hide (show G2.opn = G.opn ++ [true] from by rw [hnx.out]; unfold Grp.next; rw [if_pos hk0])
                have h32b : ((G.out.length : Int) == 32) = false := by simpa using (by omega : ¬ (G.out.length : Int) = 32)
                have h32c : (G.out.length == 32) = false := by simpa using h32
                have kT : Blk (w2.alloc (.cells #[.int .i64 e.sess, .bool false, .int .i64 i, .slice none 0 0] 54)) w2.heap.size 54 _ := Blk.new _ _ _
                have hn5 := hnest.alloc (.cells #[.int .i64 e.sess, .bool false, .int .i64 i, .slice none 0 0] 54)
                have ho5 := hob.alloc (.cells #[.int .i64 e.sess, .bool false, .int .i64 i, .slice none 0 0] 54)
                have hb5 := hb2.alloc hb2.size (.cells #[.int .i64 e.sess, .bool false, .int .i64 i, .slice none 0 0] 54)
                have hs5 : w.heap.size ≤ (w2.alloc (.cells #[.int .i64 e.sess, .bool false, .int .i64 i, .slice none 0 0] 54)).heap.size := hb5.size
                have hapr := hide (fun vb v vs => @ApartB.row vb v vs)
                have hgo := hide hgl.out
                have hol9 : G.opn.length ≤ 1000 := by have := hgl.out; omega
                have hapH := hide hap
                clear hop hst hnx hbd hrt ha hk0 h32 hnest hob hb2 kE2
                go_upto_region 18 with (at_builtin; refine wpList_append_nestB rfl (.tmp 48) (.tmp 53) 50 rfl w.heap.size 54 56 ig _ 48 Tryz.underlying50 hig hig1 hig2 hig3 rfl (.slice Av G.out.length cv) G.out vs rfl hn5 ⟨e.sess, false, i, []⟩ rfl w2.heap.size rfl kT (by simp [maxLen]; omega) (by omega) hs5 ?_; intro v6 W6 hn6 hgrow6 hat6)
                have ho6 := ho5.kept hgrow6 (hapr.out _ _ _ hapH.out)
                have hb6 := hb5.grown hgrow6 hs5 (fun q hq => (hvlt.out q hq).1)
                have hbl6 := hide (fun q hq => (ho5.lt q hq).2)
                have ho7 := ho6.alloc (.cells #[.bool true] 4)
                have hn7 := hn6.alloc (.cells #[.bool true] 4)
                have hb7 := hb6.alloc hb6.size (.cells #[.bool true] 4)
                have hs7 : w.heap.size ≤ (W6.alloc (.cells #[.bool true] 4)).heap.size := hb7.size
                have kN := hide (show SlR 1 (Flat encB5) (W6.alloc (.cells #[.bool true] 4)) (fun _ => True) (.slice (some ⟨W6.heap.size, 0, none⟩) 1 1) [true] from SlR.one (R := Flat encB5) (size := 1) (K := fun _ => True) (x := true) (w := W6.alloc (.cells #[.bool true] 4)) (Blk.new W6 4 #[.bool true]) rfl rfl trivial)
                clear hn5 ho5 hb5 kT hs5
                go_wp2_with (at_builtin; refine wpList_append_flat (enc := encB5) rfl (.tmp 55) (.tmp 56) 93 rfl w.heap.size 4 ib _ 1 1 Tryz.underlying93 hib hib1 hib2 hib3 rfl (by decide) _ (fun _ => True) G.opn rfl ho7 (fun _ => rfl) _ [true] rfl kN.out encB5_one (by simp [maxLen]; omega) (by simp; omega) hs7 ?_; intro v8 W8 ho8 hgrow8 hat8)
                have hgs := hgrow6.size
                have hapN : ApartB (.slice (some ⟨gb, 0, none⟩) G.opn.length cb) v6 (vs ++ [.slice none 0 0]) := fun q hq => by
                  have hql := hbl6.out q hq
                  refine ⟨?_, fun j vo hj => ?_⟩
                  · rcases hat6 with e | e
                    · rw [e]; exact (hapH.out q hq).1
                    · rw [e]; intro e2; injection e2 with e2; omega
                  · rcases Nat.lt_or_ge j vs.length with g | g
                    · rw [List.getElem?_append_left g] at hj; exact (hapH.out q hq).2 j vo hj
                    · rw [List.getElem?_append_right g] at hj
                      cases hqq : j - vs.length with
                      | zero => rw [hqq] at hj; simp at hj; subst hj; intro e; cases e
                      | succ m => rw [hqq] at hj; simp at hj
                have hn8 := nest_off hn7 hgrow8 (fun q e => hapN q e)
                have hap8 : ApartB v8 v6 (vs ++ [.slice none 0 0]) := fun q hq => by
                  rcases hat8 with e | e
                  · rw [e] at hq; exact hapN q hq
                  · rw [e] at hq
                    injection hq with hq
                    refine ⟨fun e2 => ?_, fun j vo hj e2 => ?_⟩
                    · have := (hn7.lt _ e2).2; omega
                    · obtain ⟨u, hu⟩ := hn7.at2 hj
                      have := ((hn7.ops j vo u hj hu).lt q e2).2
                      omega
                have hb8 := hb7.grown hgrow8 hs7 (fun q hq => (ho7.lt q hq).1)
                go_roundw
                case rel =>
                  obtain rfl := hGe.out
                  exact ⟨i + 1, v6, v8, _, by omega, by go_num, rfl, rfl, by rw [hG2.out]; exact hn8, by rw [hG2.out]; simp; omega, by rw [hG3.out]; exact ho8, hap8, hst2, hb8⟩
                case measure => simp [intOf]; omega
            · have hkb : (e.kind == 0) = false := by simpa using hk0
              have hop : ge = 6 := by rw [hop]; unfold Grp.bad; rw [if_neg (by simp [hrt]), if_neg hk0, ha]; rfl
              clear hrt kE2 ha hk0
              have hr := hbd.out (by rw [hop]; decide)
              rw [hop] at hr
              replace hr := hide hr
              clear hop hbd hst hnx hnest
              go_wp2
              go_ret3
              exact ⟨.slice none 0 0, by rw [hr.out]; rfl, by rw [hr.out]; exact SlR.nil _ _ _ _ _ _, hb2⟩
          | true =>
            have ha : G.at_ e.sess = some k := by rw [hat]; simp
            replace hcb : w2.cell? ⟨gb, k, none⟩ = some (.bool true) := hcb
            clear hat
            go_wp2_with fail
            refine hc.mono ?_
            clear hc
            rintro e3 w3 ⟨rfl, rfl⟩
            by_cases hk0 : e.kind = 0
            · have hop : ge = 5 := by rw [hop]; unfold Grp.bad; rw [if_neg (by simp [hrt]), if_pos hk0, ha]; rfl
              have hkb : (e.kind == 0) = true := by simpa using hk0
              clear hrt kE2 ha hk0
              have hr := hbd.out (by rw [hop]; decide)
              rw [hop] at hr
              replace hr := hide hr
              clear hop hbd hst hnx hnest
              go_wp2
              go_ret3
              exact ⟨.slice none 0 0, by rw [hr.out]; rfl, by rw [hr.out]; exact SlR.nil _ _ _ _ _ _, hb2⟩
            · have hkb : (e.kind == 0) = false := by simpa using hk0
              have hop : ge = 0 := by rw [hop]; unfold Grp.bad; rw [if_neg (by simp [hrt]), if_neg hk0, ha]; rfl
              have hst2 := hide (hst.out hop)
              obtain ⟨q1, q2, q3, q4⟩ := Grp.at_lt ha
              obtain ⟨g, cap, hvf, hgB, hgs⟩ := hnest.head q1
              injection hvf with hv1 _ hv3
              subst hv1 hv3
              obtain ⟨vo, hvo⟩ := hnest.at_ q1
              have hLk : G.out[k]? = some G.out[k] := List.getElem?_eq_getElem q1
              have hk3 : (k : Int) < (G.out.length : Int) := by omega
              obtain ⟨x0, x1, x2, x3⟩ := hnest.cells hLk hvo
              have f1 := hnest.frozen (k * 4 + 1)
              have f3 := hnest.frozen (k * 4 + 3)
              have fb := hob.frozenAt k
              by_cases h12 : e.kind = 1 ∨ e.kind = 2
              · by_cases h1 : e.kind = 1
                · have hk1b : (e.kind == 1) = true := by simpa using h1
                  clear h1
                  have hG2 := hide (show G2.out = G.out.set k (addOp G.out[k] e) from by rw [hnx.out]; unfold Grp.next; rw [if_neg hk0, ha]; dsimp only; rw [if_pos h12, hLk]; rfl)
                  have hG3 := hide (show G2.opn = G.opn from by rw [hnx.out]; unfold Grp.next; rw [if_neg hk0, ha]; dsimp only; rw [if_pos h12])
                  have hol3 := hol2.out _ (List.getElem_mem q1)
                  have hne : vo.ownBlock ≠ some g := fun e => hnest.out k vo g hvo e rfl
                  have hvol := hide (fun j (hj : vo.ownBlock = some j) => (hnest.ops k vo _ hvo hLk).lt j hj)
                  have hnX := (hnest.alloc (.cells #[.int .i64 e.kind, .int .i64 e.sess, .int .i64 e.key, .int .i64 e.val] 56)).drew
                  have hownX : ((w2.alloc (.cells #[.int .i64 e.kind, .int .i64 e.sess, .int .i64 e.key, .int .i64 e.val] 56)).drew).ownsRow (w.heap.size) 56 4 vo G.out[k].ops.length (G.out[k].ops.map Ev.enc).flatten := hnX.ops k vo _ hvo hLk
                  have kN := hide (show SlR 4 (Flat Ev.enc) ((w2.alloc (.cells #[.int .i64 e.kind, .int .i64 e.sess, .int .i64 e.key, .int .i64 e.val] 56)).drew) (fun _ => True) (.slice (some ⟨w2.heap.size, 0, none⟩) 1 1) [e] from SlR.one (R := Flat Ev.enc) (size := 4) (K := fun _ => True) (x := e) (w := ((w2.alloc (.cells #[.int .i64 e.kind, .int .i64 e.sess, .int .i64 e.key, .int .i64 e.val] 56)).drew)) (Blk.new w2 56 #[.int .i64 e.kind, .int .i64 e.sess, .int .i64 e.key, .int .i64 e.val]) rfl rfl trivial)
                  have hoX := (hob.alloc (.cells #[.int .i64 e.kind, .int .i64 e.sess, .int .i64 e.key, .int .i64 e.val] 56)).drew
                  have hbX : Below w.heap.size w ((w2.alloc (.cells #[.int .i64 e.kind, .int .i64 e.sess, .int .i64 e.key, .int .i64 e.val] 56)).drew) := (hb2.alloc hb2.size _).drew
                  have z3 : ((w2.alloc (.cells #[.int .i64 e.kind, .int .i64 e.sess, .int .i64 e.key, .int .i64 e.val] 56)).drew).cell? ⟨g, k * 4 + 3, none⟩ = some vo := (World.cell?_of_block (Below.heap_alloc w2 (.cells #[.int .i64 e.kind, .int .i64 e.sess, .int .i64 e.key, .int .i64 e.val] 56) g hgs)).trans x3
                  have zf : ((w2.alloc (.cells #[.int .i64 e.kind, .int .i64 e.sess, .int .i64 e.key, .int .i64 e.val] 56)).drew).frozen? ⟨g, k * 4 + 3, none⟩ = false := (World.frozen?_of_block (Below.heap_alloc w2 (.cells #[.int .i64 e.kind, .int .i64 e.sess, .int .i64 e.key, .int .i64 e.val] 56) g hgs)).trans f3
                  have hapO := ApartB.op hap hvo
                  have hoL := hide (fun q hq => (hob.lt q hq).2)
                  obtain ⟨Ao, co, rfl⟩ := own_slice (hnest.ops k vo _ hvo hLk)
                  have hL2 : Hid ((G.out.set k (addOp G.out[k] e)).length = G.out.length) := List.length_set
                  have hsX : w.heap.size ≤ ((w2.alloc (.cells #[.int .i64 e.kind, .int .i64 e.sess, .int .i64 e.key, .int .i64 e.val] 56)).drew).heap.size := by simp; omega
                  have hgX : g < ((w2.alloc (.cells #[.int .i64 e.kind, .int .i64 e.sess, .int .i64 e.key, .int .i64 e.val] 56)).drew).heap.size := by simp; omega
                  generalize hT : G.out[k] = T5 at *
                  replace hLk := hide hLk
                  replace hvo := hide hvo
                  replace hnX := hide hnX
                  replace hapO := hide hapO
                  replace h12 := hide h12
                  clear hT hop hst hnx hbd hrt ha hk0 hnest hb2 q3 q4 kE2 hob
                  go_wp2_with fail
                  refine wp_region_plan [0, 1, 2, 3, 4, 5, 6, 7] [8, 9, 10, 11, 12] (by kernel_rfl) (by kernel_rfl) (fun _ _ d _ _ h => by cases d <;> exact h) ?_
                  simp only [List.filterMap_cons, List.filterMap_nil, List.getElem?_cons_zero, List.getElem?_cons_succ]
                  repeat still_step
                  refine wpStill_nil ?_
                  clear x0 x1 x2 x3 f1 f3 c0 c1 c2 c3 fb
                  refine wpList_plain rfl (fun K hK => ?_)
                  go_simp
                  refine hK _ _ ?_
                  clear hK K
                  refine wpList_append_flat (enc := Ev.enc) rfl (.tmp 75) (.tmp 77) 41 rfl (w.heap.size) 56 ie _ 4 32 Tryz.underlying41 hie hie1 hie2 hie3 rfl (by decide) (.slice Ao T5.ops.length co) (fun _ => True) T5.ops rfl hownX (fun _ => rfl) _ [e] rfl kN.out encE5 (by simp [maxLen]; omega) (by simp; omega) hsX ?_
                  intro v6 W6 hown6 hgrow6 hat6
                  obtain ⟨A6, c6, rfl⟩ := own_slice hown6
                  have tc := hgrow6.cell z3 (fun e => hne e.symm)
                  have tf := (World.frozen?_of_block (a := ⟨g, k * 4 + 3, none⟩) (hgrow6.block g hgX (fun e => hne e.symm))).trans zf
                  have hn6 := hnX.out.addOp hLk.out hvo.out hown6 hgrow6 hat6
                  have hg6 := hgrow6.size
                  go_wp2
                  go_roundw
                  case rel =>
                    obtain rfl := hGe.out
                    rw [show (T5.ops ++ [e]).length = T5.ops.length + 1 by simp] at hn6 hat6
                    have ho6 := own_setCell (hoX.kept hgrow6 hapO.out) (p := ⟨g, k * 4 + 3, none⟩) (fun e => (hap gb rfl).1 (by have e2 : some gb = some g := e; have e3 : some g = some gb := e2.symm; exact e3)) (.slice A6 (T5.ops.length + 1) c6)
                    refine ⟨i + 1, _, _, _, by omega, by go_num, rfl, rfl, by rw [hG2.out]; exact hn6, by rw [hG2.out, hL2.out]; omega, by rw [hG3.out]; exact ho6, ?_, hst2, ?_⟩
                    · intro q hq
                      refine ⟨(hap q hq).1, fun j vo hj => ?_⟩
                      rw [List.getElem?_set] at hj
                      split at hj
                      · split at hj
                        · injection hj with hj
                          subst hj
                          rcases hat6 with e | e
                          · exact fun e2 => (hap q hq).2 k _ hvo.out (e.symm.trans e2)
                          · intro e2
                            rw [e2] at e
                            injection e with e
                            have := hoL.out q hq
                            simp at e
                            omega
                        · cases hj
                      · exact (hap q hq).2 j vo hj
                    · exact (hbX.grown hgrow6 hbX.size (fun j hj => by have := (hvol.out j hj).1; omega)).setCell (p := ⟨g, k * 4 + 3, none⟩) (by show _ ≤ g; omega) _
                  case measure => simp [intOf]; omega
                · have hk1b : (e.kind == 1) = false := by simpa using h1
                  have hk2b : (e.kind == 2) = true := by simpa using (show e.kind = 2 by omega)
                  clear h1
                  have hG2 := hide (show G2.out = G.out.set k (addOp G.out[k] e) from by rw [hnx.out]; unfold Grp.next; rw [if_neg hk0, ha]; dsimp only; rw [if_pos h12, hLk]; rfl)
                  have hG3 := hide (show G2.opn = G.opn from by rw [hnx.out]; unfold Grp.next; rw [if_neg hk0, ha]; dsimp only; rw [if_pos h12])
                  have hol3 := hol2.out _ (List.getElem_mem q1)
                  have hne : vo.ownBlock ≠ some g := fun e => hnest.out k vo g hvo e rfl
                  have hvol := hide (fun j (hj : vo.ownBlock = some j) => (hnest.ops k vo _ hvo hLk).lt j hj)
                  have hnX := (hnest.alloc (.cells #[.int .i64 e.kind, .int .i64 e.sess, .int .i64 e.key, .int .i64 e.val] 56)).drew
                  have hownX : ((w2.alloc (.cells #[.int .i64 e.kind, .int .i64 e.sess, .int .i64 e.key, .int .i64 e.val] 56)).drew).ownsRow (w.heap.size) 56 4 vo G.out[k].ops.length (G.out[k].ops.map Ev.enc).flatten := hnX.ops k vo _ hvo hLk
                  have kN := hide (show SlR 4 (Flat Ev.enc) ((w2.alloc (.cells #[.int .i64 e.kind, .int .i64 e.sess, .int .i64 e.key, .int .i64 e.val] 56)).drew) (fun _ => True) (.slice (some ⟨w2.heap.size, 0, none⟩) 1 1) [e] from SlR.one (R := Flat Ev.enc) (size := 4) (K := fun _ => True) (x := e) (w := ((w2.alloc (.cells #[.int .i64 e.kind, .int .i64 e.sess, .int .i64 e.key, .int .i64 e.val] 56)).drew)) (Blk.new w2 56 #[.int .i64 e.kind, .int .i64 e.sess, .int .i64 e.key, .int .i64 e.val]) rfl rfl trivial)
                  have hoX := (hob.alloc (.cells #[.int .i64 e.kind, .int .i64 e.sess, .int .i64 e.key, .int .i64 e.val] 56)).drew
                  have hbX : Below w.heap.size w ((w2.alloc (.cells #[.int .i64 e.kind, .int .i64 e.sess, .int .i64 e.key, .int .i64 e.val] 56)).drew) := (hb2.alloc hb2.size _).drew
                  have z3 : ((w2.alloc (.cells #[.int .i64 e.kind, .int .i64 e.sess, .int .i64 e.key, .int .i64 e.val] 56)).drew).cell? ⟨g, k * 4 + 3, none⟩ = some vo := (World.cell?_of_block (Below.heap_alloc w2 (.cells #[.int .i64 e.kind, .int .i64 e.sess, .int .i64 e.key, .int .i64 e.val] 56) g hgs)).trans x3
                  have zf : ((w2.alloc (.cells #[.int .i64 e.kind, .int .i64 e.sess, .int .i64 e.key, .int .i64 e.val] 56)).drew).frozen? ⟨g, k * 4 + 3, none⟩ = false := (World.frozen?_of_block (Below.heap_alloc w2 (.cells #[.int .i64 e.kind, .int .i64 e.sess, .int .i64 e.key, .int .i64 e.val] 56) g hgs)).trans f3
                  have hapO := ApartB.op hap hvo
                  have hoL := hide (fun q hq => (hob.lt q hq).2)
                  obtain ⟨Ao, co, rfl⟩ := own_slice (hnest.ops k vo _ hvo hLk)
                  have hL2 : Hid ((G.out.set k (addOp G.out[k] e)).length = G.out.length) := List.length_set
                  have hsX : w.heap.size ≤ ((w2.alloc (.cells #[.int .i64 e.kind, .int .i64 e.sess, .int .i64 e.key, .int .i64 e.val] 56)).drew).heap.size := by simp; omega
                  have hgX : g < ((w2.alloc (.cells #[.int .i64 e.kind, .int .i64 e.sess, .int .i64 e.key, .int .i64 e.val] 56)).drew).heap.size := by simp; omega
                  generalize hT : G.out[k] = T5 at *
                  replace hLk := hide hLk
                  replace hvo := hide hvo
                  replace hnX := hide hnX
                  replace hapO := hide hapO
                  replace h12 := hide h12
                  clear hT hop hst hnx hbd hrt ha hk0 hnest hb2 q3 q4 kE2 hob
                  go_wp2_with fail
                  refine wp_region_plan [0, 1, 2, 3, 4, 5, 6, 7] [8, 9, 10, 11, 12] (by kernel_rfl) (by kernel_rfl) (fun _ _ d _ _ h => by cases d <;> exact h) ?_
                  simp only [List.filterMap_cons, List.filterMap_nil, List.getElem?_cons_zero, List.getElem?_cons_succ]
                  repeat still_step
                  refine wpStill_nil ?_
                  clear x0 x1 x2 x3 f1 f3 c0 c1 c2 c3 fb
                  refine wpList_plain rfl (fun K hK => ?_)
                  go_simp
                  refine hK _ _ ?_
                  clear hK K
                  refine wpList_append_flat (enc := Ev.enc) rfl (.tmp 75) (.tmp 77) 41 rfl (w.heap.size) 56 ie _ 4 32 Tryz.underlying41 hie hie1 hie2 hie3 rfl (by decide) (.slice Ao T5.ops.length co) (fun _ => True) T5.ops rfl hownX (fun _ => rfl) _ [e] rfl kN.out encE5 (by simp [maxLen]; omega) (by simp; omega) hsX ?_
                  intro v6 W6 hown6 hgrow6 hat6
                  obtain ⟨A6, c6, rfl⟩ := own_slice hown6
                  have tc := hgrow6.cell z3 (fun e => hne e.symm)
                  have tf := (World.frozen?_of_block (a := ⟨g, k * 4 + 3, none⟩) (hgrow6.block g hgX (fun e => hne e.symm))).trans zf
                  have hn6 := hnX.out.addOp hLk.out hvo.out hown6 hgrow6 hat6
                  have hg6 := hgrow6.size
                  go_wp2
                  go_roundw
                  case rel =>
                    obtain rfl := hGe.out
                    rw [show (T5.ops ++ [e]).length = T5.ops.length + 1 by simp] at hn6 hat6
                    have ho6 := own_setCell (hoX.kept hgrow6 hapO.out) (p := ⟨g, k * 4 + 3, none⟩) (fun e => (hap gb rfl).1 (by have e2 : some gb = some g := e; have e3 : some g = some gb := e2.symm; exact e3)) (.slice A6 (T5.ops.length + 1) c6)
                    refine ⟨i + 1, _, _, _, by omega, by go_num, rfl, rfl, by rw [hG2.out]; exact hn6, by rw [hG2.out, hL2.out]; omega, by rw [hG3.out]; exact ho6, ?_, hst2, ?_⟩
                    · intro q hq
                      refine ⟨(hap q hq).1, fun j vo hj => ?_⟩
                      rw [List.getElem?_set] at hj
                      split at hj
                      · split at hj
                        · injection hj with hj
                          subst hj
                          rcases hat6 with e | e
                          · exact fun e2 => (hap q hq).2 k _ hvo.out (e.symm.trans e2)
                          · intro e2
                            rw [e2] at e
                            injection e with e
                            have := hoL.out q hq
                            simp at e
                            omega
                        · cases hj
                      · exact (hap q hq).2 j vo hj
                    · exact (hbX.grown hgrow6 hbX.size (fun j hj => by have := (hvol.out j hj).1; omega)).setCell (p := ⟨g, k * 4 + 3, none⟩) (by show _ ≤ g; omega) _
                  case measure => simp [intOf]; omega
              · have hk14 : (e.kind == 1) = false := by simpa using (show e.kind ≠ 1 by omega)
                have hk24 : (e.kind == 2) = false := by simpa using (show e.kind ≠ 2 by omega)
                by_cases h34 : e.kind = 3
                · have hk3 : (e.kind == 3) = true := by simpa using h34
                  have hG2 := hide (show G2.out = G.out.set k (shutT G.out[k] true) from by rw [hnx.out]; unfold Grp.next; rw [if_neg hk0, ha]; dsimp only; rw [if_neg h12, hLk]; simp [h34])
                  have hG3 := hide (show G2.opn = G.opn.set k false from by rw [hnx.out]; unfold Grp.next; rw [if_neg hk0, ha]; dsimp only; rw [if_neg h12])
                  have hne := (hap gb rfl).1
                  have hne2 : gb ≠ g := fun e => hne (by rw [e]; rfl)
                  have hnS := nest_off hnest (setCell_grown w2 ⟨gb, k, none⟩ (.bool false)) (fun q e => by cases e; exact hap gb rfl)
                  have hoS := (hob.stored k (.bool false)).1
                  rw [← bools_set] at hoS
                  have hn3 := hnS.shut hLk true
                  have ho3 := own_setCell hoS (p := ⟨g, k * 4 + 1, none⟩) (fun e => by injection e with e; exact hne2 e) (.bool true)
                  have x1' : (w2.setCell ⟨gb, k, none⟩ (.bool false)).cell? ⟨g, k * 4 + 1, none⟩ = some (.bool G.out[k].done) := (World.cell?_of_block (Below.heap_setCell w2 ⟨gb, k, none⟩ (.bool false) g (fun e => hne2 e.symm))).trans x1
                  have f1' : (w2.setCell ⟨gb, k, none⟩ (.bool false)).frozen? ⟨g, k * 4 + 1, none⟩ = false := (World.frozen?_of_block (a := ⟨g, k * 4 + 1, none⟩) (Below.heap_setCell w2 ⟨gb, k, none⟩ (.bool false) g (fun e => hne2 e.symm))).trans f1
                  have gbl := (hblt.out gb rfl).1
                  have ggl := (hvlt.out g rfl).1
                  have hb3 := (hb2.setCell (p := ⟨gb, k, none⟩) gbl (.bool false)).setCell (p := ⟨g, k * 4 + 1, none⟩) ggl (.bool true)
                  have hL2 : Hid ((G.out.set k (shutT G.out[k] true)).length = G.out.length) := List.length_set
                  have hL3 : Hid ((G.opn.set k false).length = G.opn.length) := List.length_set
                  have kES := kE2.far (p := ⟨gb, k, none⟩) (by show wr.heap.size ≠ gb; have := (hblt.out gb rfl).2; omega) (.bool false)
                  have s0 := kES.cell 0
                  simp only [List.getElem?_toArray, List.getElem?_cons_zero] at s0
                  clear hop hst hnx hbd hrt ha hk0 h12 hnest hb2 hob hnS hoS hLk hvo h34 q3 q4 x0 x1 x2 x3
                  go_wp2
                  go_roundw
                  case rel =>
                    obtain rfl := hGe.out
                    exact ⟨i + 1, _, _, vs, by omega, by go_num, rfl, rfl, by rw [hG2.out]; exact hn3, by rw [hG2.out, hL2.out]; omega, by rw [hG3.out, hL3.out]; exact ho3, hap, hst2, hb3⟩
                  case measure => simp [intOf]; omega
                · have hk3 : (e.kind == 3) = false := by simpa using h34
                  have hG2 := hide (show G2.out = G.out.set k (shutT G.out[k] false) from by rw [hnx.out]; unfold Grp.next; rw [if_neg hk0, ha]; dsimp only; rw [if_neg h12, hLk]; simp [h34])
                  have hG3 := hide (show G2.opn = G.opn.set k false from by rw [hnx.out]; unfold Grp.next; rw [if_neg hk0, ha]; dsimp only; rw [if_neg h12])
                  have hne := (hap gb rfl).1
                  have hne2 : gb ≠ g := fun e => hne (by rw [e]; rfl)
                  have hnS := nest_off hnest (setCell_grown w2 ⟨gb, k, none⟩ (.bool false)) (fun q e => by cases e; exact hap gb rfl)
                  have hoS := (hob.stored k (.bool false)).1
                  rw [← bools_set] at hoS
                  have hn3 := hnS.shut hLk false
                  have ho3 := own_setCell hoS (p := ⟨g, k * 4 + 1, none⟩) (fun e => by injection e with e; exact hne2 e) (.bool false)
                  have x1' : (w2.setCell ⟨gb, k, none⟩ (.bool false)).cell? ⟨g, k * 4 + 1, none⟩ = some (.bool G.out[k].done) := (World.cell?_of_block (Below.heap_setCell w2 ⟨gb, k, none⟩ (.bool false) g (fun e => hne2 e.symm))).trans x1
                  have f1' : (w2.setCell ⟨gb, k, none⟩ (.bool false)).frozen? ⟨g, k * 4 + 1, none⟩ = false := (World.frozen?_of_block (a := ⟨g, k * 4 + 1, none⟩) (Below.heap_setCell w2 ⟨gb, k, none⟩ (.bool false) g (fun e => hne2 e.symm))).trans f1
                  have gbl := (hblt.out gb rfl).1
                  have ggl := (hvlt.out g rfl).1
                  have hb3 := (hb2.setCell (p := ⟨gb, k, none⟩) gbl (.bool false)).setCell (p := ⟨g, k * 4 + 1, none⟩) ggl (.bool false)
                  have hL2 : Hid ((G.out.set k (shutT G.out[k] false)).length = G.out.length) := List.length_set
                  have hL3 : Hid ((G.opn.set k false).length = G.opn.length) := List.length_set
                  have kES := kE2.far (p := ⟨gb, k, none⟩) (by show wr.heap.size ≠ gb; have := (hblt.out gb rfl).2; omega) (.bool false)
                  have s0 := kES.cell 0
                  simp only [List.getElem?_toArray, List.getElem?_cons_zero] at s0
                  clear hop hst hnx hbd hrt ha hk0 h12 hnest hb2 hob hnS hoS hLk hvo h34 q3 q4 x0 x1 x2 x3
                  go_wp2
                  go_roundw
                  case rel =>
                    obtain rfl := hGe.out
                    exact ⟨i + 1, _, _, vs, by omega, by go_num, rfl, rfl, by rw [hG2.out]; exact hn3, by rw [hG2.out, hL2.out]; omega, by rw [hG3.out, hL3.out]; exact ho3, hap, hst2, hb3⟩
                  case measure => simp [intOf]; omega
    · have : i = l.length := by omega
      subst this
      have hr := hide (hgood.out hall.out)
      have hS := hnest.txs
      generalize (grpTo l l.length).out = LO at *
      go_wp2
      go_ret3
      exact ⟨v, by rw [hr.out]; rfl, by rw [hr.out]; exact TxS.fit hS (fun b h => h), hb⟩
end Go.Proofs.YtphcebgpllecjaaGreatDoor
