/-
  Walks: layer 29: what is said of a pair that is open.
-/
import Derived.Test.YtjomijnbnbideaaGreatDoorE30
import Derived.Test.YtjomijnbnbideaaGreatDoorE31
import Derived.Test.YtjomijnbnbideaaGreatDoorE33
import Derived.Test.YtjomijnbnbideaaGreatDoorE34
set_option linter.unusedVariables false
set_option linter.unusedSimpArgs false
namespace Go.Proofs.YtjomijnbnbideaaGreatDoor
open Go.RowKit Go.Inq
set_option maxHeartbeats 8000000
attribute [local go_sem ↓] Go.wp_at_zero Go.wp_at_succ

theorem below_four {w W : World} {a b c d : Obj} (e : (((w.alloc a).alloc b).alloc c).alloc d = W) : Below w.heap.size w W := by
  subst e
  exact ((((Below.refl _ _).alloc (Nat.le_refl _) _).alloc (by simp) _).alloc (by simp; omega) _).alloc (by simp; omega) _
theorem Blk.four4 {w W : World} {a b c : Obj} {t : TypeId} {cs : Array Value} (e : (((w.alloc a).alloc b).alloc c).alloc (.cells cs t) = W) : Blk W (w.heap.size + 1 + 1 + 1) t cs := by
  subst e
  have := Blk.new (((w.alloc a).alloc b).alloc c) t cs
  simpa using this
theorem Blk.four1 {w W : World} {b c d : Obj} {t : TypeId} {cs : Array Value} (e : (((w.alloc (.cells cs t)).alloc b).alloc c).alloc d = W) : Blk W w.heap.size t cs := by
  subst e
  exact (((Blk.new _ _ _).alloc _).alloc _).alloc _
theorem Blk.four2 {w W : World} {a c d : Obj} {t : TypeId} {cs : Array Value} (e : (((w.alloc a).alloc (.cells cs t)).alloc c).alloc d = W) : Blk W (w.heap.size + 1) t cs := by
  subst e
  have := ((Blk.new (w.alloc a) t cs).alloc c).alloc d
  simpa using this
theorem Blk.four3 {w W : World} {a b d : Obj} {t : TypeId} {cs : Array Value} (e : (((w.alloc a).alloc b).alloc (.cells cs t)).alloc d = W) : Blk W (w.heap.size + 1 + 1) t cs := by
  subst e
  have := (Blk.new ((w.alloc a).alloc b) t cs).alloc d
  simpa using this
theorem one_is (H : List Txn) (level : Int) (L : List Fct) (p : Cho) :
    (∀ f, joinF H level L p = some f → oneS H level L p = ⟨0, [], [], [f]⟩) ∧ (∀ f, joinF H level L p = none → joinF H level L (turnB p) = some f → oneS H level L p = ⟨0, [], [], [f]⟩) ∧
    (joinF H level L p = none → joinF H level L (turnB p) = none →
      (findC H level (chosL L ++ [turnB p]) ≠ [] → findC H level (chosL L ++ [p]) ≠ [] → oneS H level L p = ⟨2, [], underL H level L [⟨p, []⟩, ⟨zeroC, findC H level (chosL L ++ [p])⟩, ⟨zeroC, findC H level (chosL L ++ [turnB p])⟩], []⟩) ∧
      (findC H level (chosL L ++ [turnB p]) ≠ [] → findC H level (chosL L ++ [p]) = [] → oneS H level L p = ⟨0, [], [], [⟨p, 4, 0, 0, findC H level (chosL L ++ [turnB p])⟩]⟩) ∧
      (findC H level (chosL L ++ [turnB p]) = [] → findC H level (chosL L ++ [p]) ≠ [] → oneS H level L p = ⟨0, [], [], [⟨turnB p, 4, 0, 0, findC H level (chosL L ++ [p])⟩]⟩) ∧
      (findC H level (chosL L ++ [turnB p]) = [] → findC H level (chosL L ++ [p]) = [] → oneS H level L p = goesS)) := by
  refine ⟨fun f h => ?_, fun f h1 h2 => ?_, fun h1 h2 => ⟨fun h3 h4 => ?_, fun h3 h4 => ?_, fun h3 h4 => ?_, fun h3 h4 => ?_⟩⟩
  · unfold oneS; rw [h]
  · unfold oneS; rw [h1, h2]
  · unfold oneS; rw [h1, h2]; dsimp only; rw [if_neg h3, if_neg h4]
  · unfold oneS; rw [h1, h2]; dsimp only; rw [if_neg h3, if_pos h4]
  · unfold oneS; rw [h1, h2]; dsimp only; rw [if_pos h3, if_neg h4]
  · unfold oneS; rw [h1, h2]; dsimp only; rw [if_pos h3, if_pos h4]
theorem ChoS.two2 {W : World} {K : Nat → Prop} {g : Nat} {p q : Cho} (h : Blk W g 49 #[.int .i64 p.key, .int .i64 p.a, .int .i64 p.b, .int .i64 q.key, .int .i64 q.a, .int .i64 q.b]) (hK : K g) : ChoS W K (.slice (some ⟨g, 0, none⟩) 2 2) [p, q] :=
  slr_blk (l := [p, q]) [encC p, encC q] h rfl (fun i cs x h1 h2 => by
    match i with
    | 0 => simp at h1 h2; subst h1 h2; exact ⟨rfl, rfl⟩
    | 1 => simp at h1 h2; subst h1 h2; exact ⟨rfl, rfl⟩
    | i + 2 => simp at h1) hK (by simp)
theorem join_form {H : List Txn} {level : Int} {L : List Fct} {c : Cho} {f : Fct} (h : joinF H level L c = some f) : f.cyc = [] ∧ f.c = c := by
  unfold joinF at h
  obtain ⟨x, _, rfl⟩ := List.mem_map.1 (List.mem_of_find?_eq_some h)
  exact ⟨rfl, rfl⟩
theorem fctR_nil {w : World} {K : Nat → Prop} {k a b d i j : Int} : FctR w K [.int .i64 k, .int .i64 a, .int .i64 b, .int .i64 d, .int .i64 i, .int .i64 j, .slice none 0 0] ⟨⟨k, a, b⟩, d, i, j, []⟩ := ⟨none, 0, rfl, IntS.nil _ _ _ _⟩
set_option maxRecDepth 100000 in
theorem one29_any (A : Option Addr) (c : Nat) (H : List Txn) (level : Int) (Al : Option Addr) (cl : Nat) (L : List Fct) (p : Cho) (w : World) (h : TxnS w (Old w) (.slice A H.length c) H) (hn : SmallH H) (hL : FctS w (Old w) (.slice Al L.length cl) L) (hF : FitF L) (hr : replB H level L = true) (hp : oneB H p = true) (hl : L.length < 20000) (hTB : TabB w) :
    Calls Tryz.prog 91 #[.agg #[.slice A H.length c], .int .i64 level, .slice Al L.length cl, .agg #[.int .i64 p.key, .int .i64 p.a, .int .i64 p.b]] w (SayOut w (oneS H level L p)) := by
  obtain ⟨hri, hlev⟩ := may_iff.1 (replB_may hr)
  have hoL := repl_one hr
  have hpa0 := hide (one_is H level L p)
  have hca0 := hide (fun (x : Cho) (hx : oneB H x = true) Ak ck gM W (hb : Below w.heap.size w W) (b1 : Blk W w.heap.size 24 #[.slice A H.length c]) (b2 : Blk W (w.heap.size + 1) 3 #[.int .i64 level]) (b3 : Blk W gM 61 #[.slice Ak (chosL L).length ck]) (oM : OwnC W w.heap.size (.slice Ak (chosL L).length ck) (chosL L)) => chain29_any A c H level Ak ck (chosL L) x w.heap.size (w.heap.size + 1) gM W (h.below hb) hn (oM.sl fun g _ h => h) (by
    unfold rightC
    rw [hri, List.length_append, chosL_len, List.length_singleton, decide_eq_true (show L.length + 1 ≤ 20000 by omega), Bool.true_and, Bool.true_and, List.all_eq_true]
    intro c hc
    rw [List.mem_append, List.mem_singleton] at hc
    exact hc.elim (hoL c) (fun e => e ▸ hx)) hlev (hTB.below hb) b1 b2 b3)
  have hfl : ∀ x, (findC H level x).length ≤ 1000000 := fun x => by
    have := ((rightH_iff H).1 hri).1
    unfold findC; rw [List.length_map]; exact Nat.le_trans findL_len (by omega)
  have hjo := hide (fun (x : Cho) W (hb : Below w.heap.size w W) => join29_any A c H level Al cl L x W (h.below hb) hn (hL.below hb) hF.1)
  have hch := hide (fun W (hb : Below w.heap.size w W) => choices22_any Al cl L W (hL.below hb) hF.1)
  have hun := hide (fun (x y z : Nod) W (hb : Below w.heap.size w W) g (hN : NodS W (Old W) (.slice (some ⟨g, 0, none⟩) 3 3) [x, y, z]) (h1 : x.cyc.length ≤ 1000000) (h2 : y.cyc.length ≤ 1000000) (h3 : z.cyc.length ≤ 1000000) => under25_any A c H level Al cl L (some ⟨g, 0, none⟩) 3 [x, y, z] W (h.below hb) hn (hL.below hb) hF hN ⟨by simp, by simp; exact ⟨h1, h2, h3⟩⟩ hr hl (hTB.below hb))
  have hone1 := hp
  have hone2 := turn_one hp
  obtain ⟨pk, pa, pb⟩ := p
  have htu : turnB ⟨pk, pa, pb⟩ = ⟨pk, pb, pa⟩ := rfl
  rw [htu] at hpa0 hone2
  dsimp only
  have hfin := hide (show ∀ k (hk : k < 2), (∀ j (hj : j < 2), j < k → joinF H level L ([⟨pk, pa, pb⟩, ⟨pk, pb, pa⟩] : List Cho)[j] = none) → ∀ f, joinF H level L ([⟨pk, pa, pb⟩, ⟨pk, pb, pa⟩] : List Cho)[k] = some f → oneS H level L ⟨pk, pa, pb⟩ = ⟨0, [], [], [f]⟩ from fun k hk hno f hf => by
    match k, hk with
    | 0, _ => exact hpa0.out.1 f hf
    | 1, _ => exact hpa0.out.2.1 f (hno 0 (by omega) (by omega)) hf)
  have hend := hide (show (∀ j (hj : j < 2), joinF H level L ([⟨pk, pa, pb⟩, ⟨pk, pb, pa⟩] : List Cho)[j] = none) → _ from fun hno => hpa0.out.2.2 (hno 0 (by omega)) (hno 1 (by omega)))
  have hca := hide (fun Ak ck gM => hca0.out ⟨pk, pb, pa⟩ hone2 Ak ck gM)
  have hcb := hide (fun Ak ck gM => hca0.out ⟨pk, pa, pb⟩ hone1 Ak ck gM)
  have hla := hfl (chosL L ++ [⟨pk, pb, pa⟩])
  have hlb := hfl (chosL L ++ [⟨pk, pa, pb⟩])
  obtain ⟨o, ho⟩ : ∃ o, oneS H level L ⟨pk, pa, pb⟩ = o := ⟨_, rfl⟩
  rw [ho] at hfin hend
  rw [ho]
  generalize findC H level (chosL L ++ [⟨pk, pb, pa⟩]) = FLa at *
  generalize findC H level (chosL L ++ [⟨pk, pa, pb⟩]) = FLb at *
  obtain ⟨UT, hUT0⟩ : ∃ UT, underL H level L [⟨⟨pk, pa, pb⟩, []⟩, ⟨zeroC, FLb⟩, ⟨zeroC, FLa⟩] = UT := ⟨_, rfl⟩
  rw [hUT0] at hend
  replace hUT0 := hide hUT0
  obtain ⟨W0, hW0⟩ : ∃ W0, (((w.alloc (.cells #[.slice A H.length c] 24)).alloc (.cells #[.int .i64 level] 3)).alloc (.cells #[.int .i64 pk, .int .i64 pa, .int .i64 pb] 49)).alloc (.cells #[.int .i64 0, .slice none 0 0, .slice none 0 0, .slice none 0 0] 35) = W0 := ⟨_, rfl⟩
  have hB := below_four hW0
  have k0 := Blk.four1 hW0
  have k1 := Blk.four2 hW0
  have k2 := Blk.four3 hW0
  have ko := Blk.four4 hW0
  have v0 := k2.cell 0
  have v1 := k2.cell 1
  have v2 := k2.cell 2
  simp only [List.getElem?_toArray, List.getElem?_cons_zero, List.getElem?_cons_succ] at v0 v1 v2
  clear h hL hF hr hp hTB hoL hfl hpa0 hca0 ho hone1 hone2 htu hri
  replace hlev := hide hlev
  replace hla := hide hla
  replace hlb := hide hlb
  replace hl := hide hl
  go_enter Tryz.func91, Tryz.ntmps91
  go_upto_region 2 with fail
  clear hW0
  generalize hWb : W0.alloc (.cells #[.int .i64 pk, .int .i64 pb, .int .i64 pa] 49) = W1
  have hb1 := below_allocEq (Below.refl W0.heap.size W0) hWb (Nat.le_refl _)
  have kb := Blk.newEq hWb
  replace k0 := k0.below hb1 k0.lt
  replace k1 := k1.below hb1 k1.lt
  replace k2 := k2.below hb1 k2.lt
  replace ko := ko.below hb1 ko.lt
  have hB1 := hB.trans (hb1.mono hB.size)
  clear hWb hb1 v0 v1 v2 hB
  generalize W0.heap.size = gb at *
  have v0 := k2.cell 0
  have v1 := k2.cell 1
  have v2 := k2.cell 2
  have b0 := kb.cell 0
  have b1 := kb.cell 1
  have b2 := kb.cell 2
  simp only [List.getElem?_toArray, List.getElem?_cons_zero, List.getElem?_cons_succ] at v0 v1 v2 b0 b1 b2
  go_wp2_with fail
  have hAl := (Below.refl W1.heap.size W1).alloc (Nat.le_refl _) (.cells #[.int .i64 pk, .int .i64 pa, .int .i64 pb, .int .i64 pk, .int .i64 pb, .int .i64 pa] 49)
  have ks := Blk.new W1 49 #[.int .i64 pk, .int .i64 pa, .int .i64 pb, .int .i64 pk, .int .i64 pb, .int .i64 pa]
  have hB2 := hB1.trans (hAl.mono hB1.size)
  have q0 := k0.below hAl k0.lt
  have q1 := k1.below hAl k1.lt
  have q2 := k2.below hAl k2.lt
  have qo := ko.below hAl ko.lt
  have qb := kb.below hAl kb.lt
  clear v0 v1 v2 b0 b1 b2 hAl hB1 k0 k1 k2 ko kb
  generalize W1.alloc (.cells #[.int .i64 pk, .int .i64 pa, .int .i64 pb, .int .i64 pk, .int .i64 pb, .int .i64 pa] 49) = W2 at *
  generalize W1.heap.size = gs at *
  go_loopw [31] (fun s31 wr => ∃ k : Nat, k ≤ 2 ∧ s31 = .int .i64 (k : Int) ∧ Hid (∀ j (hj : j < 2), j < k → joinF H level L ([⟨pk, pa, pb⟩, ⟨pk, pb, pa⟩] : List Cho)[j] = none) ∧ Blk wr w.heap.size 24 #[.slice A H.length c] ∧ Blk wr (w.heap.size + 1) 3 #[.int .i64 level] ∧ Blk wr (w.heap.size + 1 + 1) 49 #[.int .i64 pk, .int .i64 pa, .int .i64 pb] ∧ Blk wr (w.heap.size + 1 + 1 + 1) 35 #[.int .i64 0, .slice none 0 0, .slice none 0 0, .slice none 0 0] ∧ Blk wr gb 49 #[.int .i64 pk, .int .i64 pb, .int .i64 pa] ∧ Blk wr gs 49 #[.int .i64 pk, .int .i64 pa, .int .i64 pb, .int .i64 pk, .int .i64 pb, .int .i64 pa] ∧ Below w.heap.size w wr) (fun s31 _ => 2 - (intOf s31).toNat)
  case atStart => exact ⟨0, by omega, by go_num, hide fun j _ hj => absurd hj (by omega), q0, q1, q2, qo, qb, ks, hB2⟩
  case round =>
    clear q0 q1 q2 qo qb ks hB2
    obtain ⟨Wo, rfl⟩ : ∃ Wo, Wo = wr := ⟨_, rfl⟩
    obtain ⟨k, hk, rfl, hno, k0, k1, k2, ko, kb, ks, hb⟩ := hrel
    have hk0 : (0 : Int) ≤ (k : Int) := Int.natCast_nonneg _
    by_cases hlt : k < 2
    · have hk1 : (k : Int) < 2 := by omega
      have hRow : ChoS Wo (fun b => b = gs) (.slice (some ⟨gs, 0, none⟩) 2 2) [⟨pk, pa, pb⟩, ⟨pk, pb, pa⟩] := ChoS.two2 ks rfl
      obtain ⟨b2, off2, he, hbK, d0, d1, d2⟩ := ChoS.at_ hRow (i := k) (by simpa using hlt)
      obtain ⟨rfl, rfl⟩ : b2 = gs ∧ off2 = 0 := by simp at he; exact ⟨he.1.symm, he.2.symm⟩
      have hf1 := hide (hfin.out k hlt hno.out)
      have hnx : Hid (joinF H level L ([⟨pk, pa, pb⟩, ⟨pk, pb, pa⟩] : List Cho)[k] = none → ∀ j (hj : j < 2), j < k + 1 → joinF H level L ([⟨pk, pa, pb⟩, ⟨pk, pb, pa⟩] : List Cho)[j] = none) := fun g j hj hjk => by
        by_cases e : j = k
        · subst e; exact g
        · exact hno.out j hj (by omega)
      have hj1 := hide (hjo.out ([⟨pk, pa, pb⟩, ⟨pk, pb, pa⟩] : List Cho)[k])
      have hfo := hide (fun f => join_form (H := H) (level := level) (L := L) (c := ([⟨pk, pa, pb⟩, ⟨pk, pb, pa⟩] : List Cho)[k]) (f := f))
      generalize ([⟨pk, pa, pb⟩, ⟨pk, pb, pa⟩] : List Cho)[k] = x at *
      obtain ⟨xk, xa, xb⟩ := x
      dsimp only at d0 d1 d2 hj1
      rw [Nat.zero_add] at d0 d1 d2
      generalize joinF H level L ⟨xk, xa, xb⟩ = ox at *
      have hs2 : Below Wo.heap.size Wo (Wo.alloc (.cells #[.int .i64 xk, .int .i64 xa, .int .i64 xb] 49)) := (Below.refl _ _).alloc (Nat.le_refl _) _
      have hA := hide (hb.trans (hs2.mono hb.size))
      have n0 := hide (k0.below hs2 k0.lt)
      have n1 := hide (k1.below hs2 k1.lt)
      have n2 := hide (k2.below hs2 k2.lt)
      have no := hide (ko.below hs2 ko.lt)
      have nb := hide (kb.below hs2 kb.lt)
      have ns := hide (ks.below hs2 ks.lt)
      clear k0 k1 k2 ko kb ks hs2 hb hRow he hbK
      go_upto_region 5 with fail
      generalize hWa : Wo.alloc (.cells #[.int .i64 xk, .int .i64 xa, .int .i64 xb] 49) = Wa at *
      have nn := Blk.newEq hWa
      have hA := hA.out
      have n0 := n0.out
      have n1 := n1.out
      have n2 := n2.out
      have no := no.out
      have nb := nb.out
      have ns := ns.out
      clear hWa d0 d1 d2
      have c0 := n0.cell 0
      have c1 := n1.cell 0
      have e0 := nn.cell 0
      have e1 := nn.cell 1
      have e2 := nn.cell 2
      simp only [List.getElem?_toArray, List.getElem?_cons_zero, List.getElem?_cons_succ] at c0 c1 e0 e1 e2
      have hj2 := hide (hj1.out Wa hA)
      clear hj1
      go_wp2_with fail
      refine hj2.out.mono ?_
      rintro e w2 ⟨rfl, hb2⟩
      have hb3 := hA.trans (hb2.mono hA.size)
      replace n0 := n0.below hb2 n0.lt
      replace n1 := n1.below hb2 n1.lt
      replace n2 := n2.below hb2 n2.lt
      replace no := no.below hb2 no.lt
      replace nb := nb.below hb2 nb.lt
      replace ns := ns.below hb2 ns.lt
      clear hj2 hb2 hA nn c0 c1 e0 e1 e2
      unfold jnV
      cases ox with
      | some f =>
        have hfc := (hfo.out f rfl).1
        obtain rfl := hf1.out f rfl
        obtain ⟨⟨fk, fa, fb⟩, fd, fi, fj, fy⟩ := f
        obtain rfl : fy = [] := hfc
        dsimp only [Option.getD_some, Option.isSome_some]
        clear hf1 hnx hno hfo hfin hend hca hcb hch hjo hun n0 n1 n2 nb ns
        go_upto_region 7 with fail
        generalize hWf : w2.alloc (.cells #[.int .i64 fk, .int .i64 fa, .int .i64 fb, .int .i64 fd, .int .i64 fi, .int .i64 fj, .slice none 0 0] 51) = Wf
        have kf := Blk.newEq hWf
        have mo := no.allocEq hWf
        have hbF := below_allocEq hb3 hWf hb3.size
        have e0 := kf.cell 0
        have e1 := kf.cell 1
        have e2 := kf.cell 2
        have e3 := kf.cell 3
        have e4 := kf.cell 4
        have e5 := kf.cell 5
        have e6 := kf.cell 6
        simp only [List.getElem?_toArray, List.getElem?_cons_zero, List.getElem?_cons_succ] at e0 e1 e2 e3 e4 e5 e6
        obtain ⟨Wg, hWg⟩ : ∃ Wg, Wf.alloc (.cells #[.int .i64 fk, .int .i64 fa, .int .i64 fb, .int .i64 fd, .int .i64 fi, .int .i64 fj, .slice none 0 0] 51) = Wg := ⟨_, rfl⟩
        have n3 := mo.allocEq hWg
        have hbG := below_allocEq hbF hWg hbF.size
        have hgf : w.heap.size ≤ Wf.heap.size := hbF.size
        have oF : FctO Wg w.heap.size (.slice (some ⟨Wf.heap.size, 0, none⟩) 1 1) [⟨⟨fk, fa, fb⟩, fd, fi, fj, []⟩] := ownR_one (Blk.newEq hWg) hgf rfl fctR_nil
        have z0 := n3.cell 0
        have z1 := n3.cell 1
        have z2 := n3.cell 2
        have z3 := n3.cell 3
        have f0 := n3.frozen 0
        have f1 := n3.frozen 1
        have f2 := n3.frozen 2
        have f3 := n3.frozen 3
        simp only [List.getElem?_toArray, List.getElem?_cons_zero, List.getElem?_cons_succ] at z0 z1 z2 z3
        have hBo := hide (setO_below (a := (.int .i64 0)) (b := (.slice none 0 0)) (c := (.slice none 0 0)) (d := (.slice (some ⟨Wf.heap.size, 0, none⟩) 1 1)) hbG (show w.heap.size ≤ w.heap.size + 1 + 1 + 1 by omega))
        have hTo := setO_ty (n0 := w.heap.size) (a := (.int .i64 0)) (b := (.slice none 0 0)) (c := (.slice none 0 0)) (d := (.slice (some ⟨Wf.heap.size, 0, none⟩) 1 1)) n3 (by omega)
        have kz := setO_blk (a := (.int .i64 0)) (b := (.slice none 0 0)) (c := (.slice none 0 0)) (d := (.slice (some ⟨Wf.heap.size, 0, none⟩) 1 1)) n3
        have y0 := kz.cell 0
        have y1 := kz.cell 1
        have y2 := kz.cell 2
        have y3 := kz.cell 3
        unfold setO at y0 y1 y2 y3
        simp only [List.getElem?_toArray, List.getElem?_cons_zero, List.getElem?_cons_succ] at y0 y1 y2 y3
        have oG := hide (hTo.ownR FctR.stab oF (by decide))
        clear hWf no mo kf hb3 hbF n3 hbG kz hTo oF
        replace hgf := hide hgf
        go_wp2_with fail
        exact bodyPost_ret (v := .agg #[.int .i64 0, .slice none 0 0, .slice none 0 0, .slice (some ⟨Wf.heap.size, 0, none⟩) 1 1]) (by simp [results, Tryz.results91, go_sem, y0, y1, y2, y3]) rfl ⟨_, rfl, ⟨_, _, _, rfl, World.ownsRow_nil _ _ _ _, NodO.nil _ _, oG.out⟩, hBo.out⟩
      | none =>
        have hn1 := hide (hnx.out rfl)
        have hbz : Below w2.heap.size w2 (w2.alloc (.cells #[.int .i64 0, .int .i64 0, .int .i64 0, .int .i64 0, .int .i64 0, .int .i64 0, .slice none 0 0] 51)) := (Below.refl _ _).alloc (Nat.le_refl _) _
        have m0 := n0.below hbz n0.lt
        have m1 := n1.below hbz n1.lt
        have m2 := n2.below hbz n2.lt
        have mo := no.below hbz no.lt
        have mb := nb.below hbz nb.lt
        have ms := ns.below hbz ns.lt
        have hb4 := hb3.trans (hbz.mono hb3.size)
        dsimp only [Option.getD_none, Option.isSome_none]
        clear hf1 hnx hno hfo n0 n1 n2 no nb ns hb3 hbz
        go_wp2
        go_roundw
        case rel => exact ⟨k + 1, by omega, by go_num, hn1, m0, m1, m2, mo, mb, ms, hb4⟩
        case measure => simp [intOf]; omega
    · obtain rfl : k = 2 := by omega
      have hen := hide (hend.out fun j hj => hno.out j hj hj)
      clear hno hfin hend hjo
      have hch1 := hide (hch.out Wo hb)
      clear hch ks
      go_wp2_with fail
      refine hch1.out.mono ?_
      rintro e w2 ⟨vM, rfl, oM, hb2⟩
      obtain ⟨AM, cM, rfl⟩ := oM.form
      have hb3 := hb.trans (hb2.mono hb.size)
      have oM2 : OwnC w2 w.heap.size (.slice AM (chosL L).length cM) (chosL L) := own_baseT oM hb.size
      replace k0 := k0.below hb2 k0.lt
      replace k1 := k1.below hb2 k1.lt
      replace k2 := k2.below hb2 k2.lt
      replace ko := ko.below hb2 ko.lt
      replace kb := kb.below hb2 kb.lt
      generalize chosL L = M at *
      clear hch1 hb2 oM hb
      go_upto_region 10 with fail
      generalize hWM : w2.alloc (.cells #[.slice AM M.length cM] 61) = WM
      have hbm := below_allocEq (Below.refl w2.heap.size w2) hWM (Nat.le_refl _)
      have kM := Blk.newEq hWM
      replace k0 := k0.below hbm k0.lt
      replace k1 := k1.below hbm k1.lt
      replace k2 := k2.below hbm k2.lt
      replace ko := ko.below hbm ko.lt
      replace kb := kb.below hbm kb.lt
      have oM : OwnC WM w.heap.size (.slice AM M.length cM) M := own_below oM2 hbm (Nat.le_refl _)
      have hbA := hb3.trans (hbm.mono hb3.size)
      have hszA := hbA.size
      clear hWM hbm oM2 hb3
      generalize w2.heap.size = gM at *
      have hca1 := hide (hca.out AM cM gM)
      have hcb1 := hide (hcb.out AM cM gM)
      clear hca hcb
      have hca := hca1
      have hcb := hcb1
      clear hca1 hcb1
      go_upto_region 11 with fail
      refine wp_region_tabs w.heap.size [wV (.func (.func 158) #[] #[.pointer (some ⟨w.heap.size, 0, none⟩), .pointer (some ⟨w.heap.size + 1, 0, none⟩), .pointer (some ⟨gM, 0, none⟩)]), wV (.agg #[.int .i64 pk, .int .i64 pb, .int .i64 pa]), wI w.heap.size FLa, wV (.func (.func 158) #[] #[.pointer (some ⟨w.heap.size, 0, none⟩), .pointer (some ⟨w.heap.size + 1, 0, none⟩), .pointer (some ⟨gM, 0, none⟩)]), wV (.agg #[.int .i64 pk, .int .i64 pa, .int .i64 pb]), wI w.heap.size FLb, wI w.heap.size FLa, wI w.heap.size FLb] [[], [], [0,1], [], [], [3,4], [2], [5]] [[], [], [], [], [], [], [], []] [[], [], [3], [], [], [3], [3], [3]] [] [] hszA (by kernel_rfl) (by kernel_rfl) (by kernel_rfl) (by kernel_rfl) (by kernel_rfl) (by kernel_rfl) rfl trivial (by kernel_rfl) (by kernel_rfl) ?hstep ?hend
      case hstep =>
        simp only [StepsT, WantsT, RsT, acV, wV, wO, wS, wB, wU, wX, wK, wA, wI, updV, List.getElem?_toArray, List.getElem?_cons_zero, List.getElem?_cons_succ, List.getD_cons_zero, List.getD_cons_succ, List.getD_nil, Act.put, List.setIfInBounds_toArray, List.set_cons_zero, List.set_cons_succ, Nat.zero_add, Nat.reduceAdd, if_true, and_true]
        refine ⟨?_, ?o1, ?o2, ?_, ?o4, ?o5, ?o6, ?o7⟩
        all_goals intro vs W R hR hT hd
        all_goals have hsz := Nat.le_trans hszA hT.size
        all_goals have hbW := hbA.trans hT.below
        case o1 =>
          have kq := hT.blk kb (by decide)
          have c0 := kq.cell 0
          have c1 := kq.cell 1
          have c2 := kq.cell 2
          simp only [List.getElem?_toArray, List.getElem?_cons_zero, List.getElem?_cons_succ] at c0 c1 c2
          go_wp2
          exact ⟨rfl, _, rfl, hR _ _ rfl (TyW.refl _ _ _)⟩
        case o2 =>
          rw [hd.1, hd.2]
          go_wp2_with fail
          refine (hca.out W hbW (hT.blk k0 (by decide)) (hT.blk k1 (by decide)) (hT.blk kM (by decide)) (hT.own oM (by decide))).mono ?_
          rintro e W2 ⟨v, rfl, hv, hb2⟩
          go_wp2
          exact ⟨rfl, _, rfl, hR _ _ (own_baseT hv hsz) (TyW.calm hb2 hsz)⟩
        case o4 =>
          have kq := hT.blk k2 (by decide)
          have c0 := kq.cell 0
          have c1 := kq.cell 1
          have c2 := kq.cell 2
          simp only [List.getElem?_toArray, List.getElem?_cons_zero, List.getElem?_cons_succ] at c0 c1 c2
          go_wp2
          exact ⟨rfl, _, rfl, hR _ _ rfl (TyW.refl _ _ _)⟩
        case o5 =>
          rw [hd.1, hd.2]
          go_wp2_with fail
          refine (hcb.out W hbW (hT.blk k0 (by decide)) (hT.blk k1 (by decide)) (hT.blk kM (by decide)) (hT.own oM (by decide))).mono ?_
          rintro e W2 ⟨v, rfl, hv, hb2⟩
          go_wp2
          exact ⟨rfl, _, rfl, hR _ _ (own_baseT hv hsz) (TyW.calm hb2 hsz)⟩
        case o6 =>
          go_wp2
          exact ⟨rfl, _, rfl, hR _ _ hd (TyW.refl _ _ _)⟩
        case o7 =>
          go_wp2
          exact ⟨rfl, _, rfl, hR _ _ hd (TyW.refl _ _ _)⟩
        all_goals (go_wp2; exact ⟨rfl, _, rfl, hR _ _ (by first | rfl | trivial) (TyW.refl _ _ _)⟩)
      case hend =>
        intro vs W hT hd
        have o6 : OwnI W w.heap.size (vs 6) FLa := hd 6 (by simp) (by kernel_rfl)
        have o7 : OwnI W w.heap.size (vs 7) FLb := hd 7 (by simp) (by kernel_rfl)
        have hbW := hbA.trans hT.below
        have j0 := hT.blk k0 (by decide)
        have j2 := hT.blk k2 (by decide)
        have jo := hT.blk ko (by decide)
        have jb := hT.blk kb (by decide)
        simp only [acV, List.getElem?_toArray, List.getElem?_cons_zero, List.getElem?_cons_succ, Act.put, List.setIfInBounds_toArray, List.set_cons_zero, List.set_cons_succ, List.length_cons, List.length_nil, Nat.reduceAdd]
        obtain ⟨Aa, ca, e6⟩ := o6.form
        obtain ⟨Ab, cb, e7⟩ := o7.form
        rw [e6] at o6 ⊢
        rw [e7] at o7 ⊢
        have c0 := j0.cell 0
        have c1 := (hT.blk k1 (by decide)).cell 0
        have p0 := j2.cell 0
        have p1 := j2.cell 1
        have p2 := j2.cell 2
        have b0 := jb.cell 0
        have b1 := jb.cell 1
        have b2 := jb.cell 2
        simp only [List.getElem?_toArray, List.getElem?_cons_zero, List.getElem?_cons_succ] at c0 c1 p0 p1 p2 b0 b1 b2
        clear hd hT e6 e7 hbA hszA k0 k1 k2 ko kb kM oM hca hcb j0 j2 jb
        by_cases ha : FLa = []
        · have na : FLa.length = 0 := by rw [ha]; rfl
          have ga : decide ((FLa.length : Int) > 0) = false := by rw [na]; rfl
          have ga2 : decide (0 < FLa.length) = false := by rw [na]; rfl
          by_cases hb' : FLb = []
          · have nb : FLb.length = 0 := by rw [hb']; rfl
            have gb1 : decide ((FLb.length : Int) > 0) = false := by rw [nb]; rfl
            have gb2 : decide (0 < FLb.length) = false := by rw [nb]; rfl
            obtain rfl := hen.out.2.2.2 ha hb'
            have z0 := jo.cell 0
            have z1 := jo.cell 1
            have z2 := jo.cell 2
            have z3 := jo.cell 3
            have f0 := jo.frozen 0
            have f1 := jo.frozen 1
            have f2 := jo.frozen 2
            have f3 := jo.frozen 3
            simp only [List.getElem?_toArray, List.getElem?_cons_zero, List.getElem?_cons_succ] at z0 z1 z2 z3
            have hBo := hide (setO_below (a := (.int .i64 0)) (b := (.slice none 0 0)) (c := (.slice none 0 0)) (d := (.slice none 0 0)) hbW (show w.heap.size ≤ w.heap.size + 1 + 1 + 1 by omega))
            have hTo := setO_ty (n0 := w.heap.size) (a := (.int .i64 0)) (b := (.slice none 0 0)) (c := (.slice none 0 0)) (d := (.slice none 0 0)) jo (by omega)
            have kz := setO_blk (a := (.int .i64 0)) (b := (.slice none 0 0)) (c := (.slice none 0 0)) (d := (.slice none 0 0)) jo
            have y0 := kz.cell 0
            have y1 := kz.cell 1
            have y2 := kz.cell 2
            have y3 := kz.cell 3
            unfold setO at y0 y1 y2 y3
            simp only [List.getElem?_toArray, List.getElem?_cons_zero, List.getElem?_cons_succ] at y0 y1 y2 y3
            clear hen hun jo o6 o7 hbW kz hTo ha hb' na nb
            go_wp2_with fail
            exact bodyPost_ret (v := .agg #[.int .i64 0, .slice none 0 0, .slice none 0 0, .slice none 0 0]) (by simp [results, Tryz.results91, go_sem, y0, y1, y2, y3]) rfl ⟨_, rfl, ⟨_, _, _, rfl, World.ownsRow_nil _ _ _ _, NodO.nil _ _, FctO.nil _ _⟩, hBo.out⟩
          · have nb : 0 < FLb.length := List.length_pos_iff.2 hb'
            have gb1 : decide ((FLb.length : Int) > 0) = true := by simp; omega
            have gb2 : decide (0 < FLb.length) = true := by simp; omega
            obtain rfl := hen.out.2.2.1 ha hb'
            obtain ⟨Wg, hWg⟩ : ∃ Wg, W.alloc (.cells #[.int .i64 pk, .int .i64 pb, .int .i64 pa, .int .i64 4, .int .i64 0, .int .i64 0, .slice Ab FLb.length cb] 51) = Wg := ⟨_, rfl⟩
            have n3 := jo.allocEq hWg
            have hbG := below_allocEq hbW hWg hbW.size
            have o8 : OwnI Wg w.heap.size (.slice Ab FLb.length cb) FLb := own_below o7 (below_allocEq (Below.refl W.heap.size W) hWg (Nat.le_refl _)) (Nat.le_refl _)
            have oF : FctO Wg w.heap.size (.slice (some ⟨W.heap.size, 0, none⟩) 1 1) [⟨turnB ⟨pk, pa, pb⟩, 4, 0, 0, FLb⟩] := ownR_one (Blk.newEq hWg) hbW.size rfl (fctR_own o8)
            have z0 := n3.cell 0
            have z1 := n3.cell 1
            have z2 := n3.cell 2
            have z3 := n3.cell 3
            have f0 := n3.frozen 0
            have f1 := n3.frozen 1
            have f2 := n3.frozen 2
            have f3 := n3.frozen 3
            simp only [List.getElem?_toArray, List.getElem?_cons_zero, List.getElem?_cons_succ] at z0 z1 z2 z3
            have hBo := hide (setO_below (a := (.int .i64 0)) (b := (.slice none 0 0)) (c := (.slice none 0 0)) (d := (.slice (some ⟨W.heap.size, 0, none⟩) 1 1)) hbG (show w.heap.size ≤ w.heap.size + 1 + 1 + 1 by omega))
            have hTo := setO_ty (n0 := w.heap.size) (a := (.int .i64 0)) (b := (.slice none 0 0)) (c := (.slice none 0 0)) (d := (.slice (some ⟨W.heap.size, 0, none⟩) 1 1)) n3 (by omega)
            have kz := setO_blk (a := (.int .i64 0)) (b := (.slice none 0 0)) (c := (.slice none 0 0)) (d := (.slice (some ⟨W.heap.size, 0, none⟩) 1 1)) n3
            have y0 := kz.cell 0
            have y1 := kz.cell 1
            have y2 := kz.cell 2
            have y3 := kz.cell 3
            unfold setO at y0 y1 y2 y3
            simp only [List.getElem?_toArray, List.getElem?_cons_zero, List.getElem?_cons_succ] at y0 y1 y2 y3
            have oG := hide (hTo.ownR FctR.stab oF (by decide))
            clear hen hun jo o6 o7 o8 hbW kz hTo ha hb' na nb n3 hbG oF
            go_wp2_with fail
            exact bodyPost_ret (v := .agg #[.int .i64 0, .slice none 0 0, .slice none 0 0, .slice (some ⟨W.heap.size, 0, none⟩) 1 1]) (by simp [results, Tryz.results91, go_sem, y0, y1, y2, y3]) rfl ⟨_, rfl, ⟨_, _, _, rfl, World.ownsRow_nil _ _ _ _, NodO.nil _ _, oG.out⟩, hBo.out⟩
        · have na : 0 < FLa.length := List.length_pos_iff.2 ha
          have ga : decide ((FLa.length : Int) > 0) = true := by simp; omega
          have ga2 : decide (0 < FLa.length) = true := by simp; omega
          by_cases hb' : FLb = []
          · have nb : FLb.length = 0 := by rw [hb']; rfl
            have gb1 : decide ((FLb.length : Int) > 0) = false := by rw [nb]; rfl
            have gb2 : decide (0 < FLb.length) = false := by rw [nb]; rfl
            obtain rfl := hen.out.2.1 ha hb'
            obtain ⟨Wg, hWg⟩ : ∃ Wg, W.alloc (.cells #[.int .i64 pk, .int .i64 pa, .int .i64 pb, .int .i64 4, .int .i64 0, .int .i64 0, .slice Aa FLa.length ca] 51) = Wg := ⟨_, rfl⟩
            have n3 := jo.allocEq hWg
            have hbG := below_allocEq hbW hWg hbW.size
            have o8 : OwnI Wg w.heap.size (.slice Aa FLa.length ca) FLa := own_below o6 (below_allocEq (Below.refl W.heap.size W) hWg (Nat.le_refl _)) (Nat.le_refl _)
            have oF : FctO Wg w.heap.size (.slice (some ⟨W.heap.size, 0, none⟩) 1 1) [⟨⟨pk, pa, pb⟩, 4, 0, 0, FLa⟩] := ownR_one (Blk.newEq hWg) hbW.size rfl (fctR_own o8)
            have z0 := n3.cell 0
            have z1 := n3.cell 1
            have z2 := n3.cell 2
            have z3 := n3.cell 3
            have f0 := n3.frozen 0
            have f1 := n3.frozen 1
            have f2 := n3.frozen 2
            have f3 := n3.frozen 3
            simp only [List.getElem?_toArray, List.getElem?_cons_zero, List.getElem?_cons_succ] at z0 z1 z2 z3
            have hBo := hide (setO_below (a := (.int .i64 0)) (b := (.slice none 0 0)) (c := (.slice none 0 0)) (d := (.slice (some ⟨W.heap.size, 0, none⟩) 1 1)) hbG (show w.heap.size ≤ w.heap.size + 1 + 1 + 1 by omega))
            have hTo := setO_ty (n0 := w.heap.size) (a := (.int .i64 0)) (b := (.slice none 0 0)) (c := (.slice none 0 0)) (d := (.slice (some ⟨W.heap.size, 0, none⟩) 1 1)) n3 (by omega)
            have kz := setO_blk (a := (.int .i64 0)) (b := (.slice none 0 0)) (c := (.slice none 0 0)) (d := (.slice (some ⟨W.heap.size, 0, none⟩) 1 1)) n3
            have y0 := kz.cell 0
            have y1 := kz.cell 1
            have y2 := kz.cell 2
            have y3 := kz.cell 3
            unfold setO at y0 y1 y2 y3
            simp only [List.getElem?_toArray, List.getElem?_cons_zero, List.getElem?_cons_succ] at y0 y1 y2 y3
            have oG := hide (hTo.ownR FctR.stab oF (by decide))
            clear hen hun jo o6 o7 o8 hbW kz hTo ha hb' na nb n3 hbG oF
            go_wp2_with fail
            exact bodyPost_ret (v := .agg #[.int .i64 0, .slice none 0 0, .slice none 0 0, .slice (some ⟨W.heap.size, 0, none⟩) 1 1]) (by simp [results, Tryz.results91, go_sem, y0, y1, y2, y3]) rfl ⟨_, rfl, ⟨_, _, _, rfl, World.ownsRow_nil _ _ _ _, NodO.nil _ _, oG.out⟩, hBo.out⟩
          · have nb : 0 < FLb.length := List.length_pos_iff.2 hb'
            have gb1 : decide ((FLb.length : Int) > 0) = true := by simp; omega
            have gb2 : decide (0 < FLb.length) = true := by simp; omega
            obtain rfl := hen.out.1 ha hb'
            obtain ⟨Wg, hWg⟩ : ∃ Wg, W.alloc (.cells #[.int .i64 pk, .int .i64 pa, .int .i64 pb, .slice none 0 0, .int .i64 0, .int .i64 0, .int .i64 0, .slice Ab FLb.length cb, .int .i64 0, .int .i64 0, .int .i64 0, .slice Aa FLa.length ca] 114) = Wg := ⟨_, rfl⟩
            have hba := below_allocEq (Below.refl W.heap.size W) hWg (Nat.le_refl _)
            have n3 := jo.below hba jo.lt
            have hbG := hbW.trans (hba.mono hbW.size)
            have s6 : IntS Wg (Old Wg) (.slice Aa FLa.length ca) FLa := OwnI.sl (own_below o6 hba (Nat.le_refl _)) fun g _ h => h
            have s7 : IntS Wg (Old Wg) (.slice Ab FLb.length cb) FLb := OwnI.sl (own_below o7 hba (Nat.le_refl _)) fun g _ h => h
            have kW := Blk.newEq hWg
            have hN : NodS Wg (Old Wg) (.slice (some ⟨W.heap.size, 0, none⟩) 3 3) [⟨⟨pk, pa, pb⟩, []⟩, ⟨zeroC, FLb⟩, ⟨zeroC, FLa⟩] :=
              slr_blk (l := [(⟨⟨pk, pa, pb⟩, []⟩ : Nod), ⟨zeroC, FLb⟩, ⟨zeroC, FLa⟩]) [[.int .i64 pk, .int .i64 pa, .int .i64 pb, .slice none 0 0], [.int .i64 0, .int .i64 0, .int .i64 0, .slice Ab FLb.length cb], [.int .i64 0, .int .i64 0, .int .i64 0, .slice Aa FLa.length ca]] kW rfl (fun i cs x h1 h2 => by
                match i with
                | 0 => simp at h1 h2; subst h1 h2; exact ⟨rfl, none, 0, rfl, IntS.nil _ _ _ _⟩
                | 1 => simp at h1 h2; subst h1 h2; exact ⟨rfl, Ab, cb, rfl, s7⟩
                | 2 => simp at h1 h2; subst h1 h2; exact ⟨rfl, Aa, ca, rfl, s6⟩
                | i + 3 => simp at h1) kW.lt (by simp)
            have hu1 := hide (hun.out ⟨⟨pk, pa, pb⟩, []⟩ ⟨zeroC, FLb⟩ ⟨zeroC, FLa⟩ Wg hbG W.heap.size hN (by simp) hlb.out hla.out)
            rw [hUT0.out] at hu1
            clear hen hun jo o6 o7 ha hb' na nb s6 s7 kW hN hba hUT0
            go_wp2_with fail
            refine hu1.out.mono ?_
            rintro e w3 ⟨vU, rfl, hvU, hb3⟩
            have hb4 := hbG.trans (hb3.mono hbG.size)
            have n4 := n3.below hb3 n3.lt
            have oU : NodO w3 w.heap.size vU UT := hvU.base hbG.size
            obtain ⟨Au, cu, rfl⟩ := OwnR.form oU
            clear hu1 hb3 hvU hbG n3 c0 c1 p0 p1 p2 b0 b1 b2 hbW
            have z0 := n4.cell 0
            have z1 := n4.cell 1
            have z2 := n4.cell 2
            have z3 := n4.cell 3
            have f0 := n4.frozen 0
            have f1 := n4.frozen 1
            have f2 := n4.frozen 2
            have f3 := n4.frozen 3
            simp only [List.getElem?_toArray, List.getElem?_cons_zero, List.getElem?_cons_succ] at z0 z1 z2 z3
            have hBo := hide (setO_below (a := (.int .i64 2)) (b := (.slice none 0 0)) (c := (.slice Au UT.length cu)) (d := (.slice none 0 0)) hb4 (show w.heap.size ≤ w.heap.size + 1 + 1 + 1 by omega))
            have hTo := setO_ty (n0 := w.heap.size) (a := (.int .i64 2)) (b := (.slice none 0 0)) (c := (.slice Au UT.length cu)) (d := (.slice none 0 0)) n4 (by omega)
            have kz := setO_blk (a := (.int .i64 2)) (b := (.slice none 0 0)) (c := (.slice Au UT.length cu)) (d := (.slice none 0 0)) n4
            have y0 := kz.cell 0
            have y1 := kz.cell 1
            have y2 := kz.cell 2
            have y3 := kz.cell 3
            unfold setO at y0 y1 y2 y3
            simp only [List.getElem?_toArray, List.getElem?_cons_zero, List.getElem?_cons_succ] at y0 y1 y2 y3
            have oG := hide (hTo.ownR NodR.stab oU (by decide))
            clear n4 oU kz hTo hb4
            go_wp2_with fail
            exact bodyPost_ret (v := .agg #[.int .i64 2, .slice none 0 0, .slice Au UT.length cu, .slice none 0 0]) (by simp [results, Tryz.results91, go_sem, y0, y1, y2, y3]) rfl ⟨_, rfl, ⟨_, _, _, rfl, World.ownsRow_nil _ _ _ _, oG.out, FctO.nil _ _⟩, hBo.out⟩
end Go.Proofs.YtjomijnbnbideaaGreatDoor
