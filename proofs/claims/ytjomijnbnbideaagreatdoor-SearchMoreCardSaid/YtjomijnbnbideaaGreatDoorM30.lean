/-
  A slice out of a block that is told row by row; no program in sight.
-/
import Derived.Defers
import Derived.Recover
import Derived.ArgAppend
import Derived.MapKept
import Derived.ChangeMaps4
import Derived.Carry
import Derived.Test.YtjomijnbnbideaaGreatDoorM01
import Derived.Test.YtjomijnbnbideaaGreatDoorM04
import Derived.Test.YtjomijnbnbideaaGreatDoorM10
import Derived.Test.YtjomijnbnbideaaGreatDoorM29
import Derived.Test.YtjomijnbnbideaaGreatDoorM12
import Derived.Test.YtjomijnbnbideaaGreatDoorM21
import Derived.Test.YtjomijnbnbideaaGreatDoorM03
import Derived.Test.YtjomijnbnbideaaGreatDoorM02
set_option linter.unusedVariables false
set_option linter.unusedSimpArgs false
namespace Go.Proofs.YtjomijnbnbideaaGreatDoor
open Go.RowKit Go.Inq
set_option maxHeartbeats 1000000

theorem slr_blk {α : Type} {size : Nat} {R : World → (Nat → Prop) → List Value → α → Prop} {w : World} {K : Nat → Prop} {g : Nat} {t : TypeId} {l : List α} (ys : List (List Value)) (h : Blk w g t ys.flatten.toArray) (hl : ys.length = l.length)
    (hR : ∀ (i : Nat) cs x, ys[i]? = some cs → l[i]? = some x → cs.length = size ∧ R w K cs x) (hK : K g) (hn : l.length ≤ 1000000) : SlR size R w K (.slice (some ⟨g, 0, none⟩) l.length l.length) l := by
  have hlen : ∀ (ys : List (List Value)), (∀ cs ∈ ys, cs.length = size) → ys.flatten.length = ys.length * size := by
    intro ys
    induction ys with
    | nil => intro _; simp
    | cons y r ih =>
      intro hs
      rw [List.flatten_cons, List.length_append, ih fun cs hc => hs cs (List.mem_cons_of_mem _ hc), hs y (by simp), List.length_cons, Nat.add_mul]
      omega
  have h1 := hlen ys fun cs hc => by
    obtain ⟨i, hi⟩ := List.getElem?_of_mem hc
    have hil : i < l.length := by
      rcases Nat.lt_or_ge i ys.length with h | h
      · omega
      · rw [List.getElem?_eq_none h] at hi; cases hi
    exact (hR i cs l[i] hi (List.getElem?_eq_getElem hil)).1
  refine SlR.of_own (base := g) (e := t) (n := l.length) (xs := ys.flatten) (ys := ys) ⟨by rw [h1, hl], .inr ⟨g, l.length, _, rfl, Nat.le_refl _, h, Nat.le_refl _, by unfold maxLen; omega, by simp [h1, hl], List.take_of_length_le (by simp [h1, hl])⟩⟩ rfl rfl hl hR (fun g' hg => ?_)
  have : g = g' := by simpa [Value.ownBlock] using hg
  exact this ▸ hK
end Go.Proofs.YtjomijnbnbideaaGreatDoor

namespace Go.Proofs.YtjomijnbnbideaaGreatDoor
open Go.RowKit Go.Inq
set_option maxHeartbeats 8000000
attribute [local go_sem ↓] Go.wp_at_zero Go.wp_at_succ

theorem back_right {H : List Txn} {level : Int} {L : List Fct} {path : List Mk} {k : Nat} (hk : k < path.length) (tr : List Nod) (h : path[k].right = true) : backP H level L (path.take (k + 1)).reverse tr = backP H level L (path.take k).reverse (⟨path[k].c, []⟩ :: (path[k].done ++ tr)) := by
  rw [List.take_succ_eq_append_getElem hk, List.reverse_append]
  show backP H level L (path[k] :: (path.take k).reverse) tr = _
  conv => lhs; unfold backP
  rw [if_pos h]
theorem back_left {H : List Txn} {level : Int} {L : List Fct} {path : List Mk} {k : Nat} (hk : k < path.length) (tr : List Nod) (h : path[k].right = false) : backP H level L (path.take (k + 1)).reverse tr = (path.take k ++ [⟨path[k].c, true, tr⟩], goesS) := by
  rw [List.take_succ_eq_append_getElem hk, List.reverse_append]
  show backP H level L (path[k] :: (path.take k).reverse) tr = _
  conv => lhs; unfold backP
  rw [if_neg (by rw [h]; decide)]
  simp
def wNP (base : Nat) (l : List Nod) : Wrd := ⟨[114, 3], fun v W => NodP W base v l, fun _ _ _ _ _ h hT k => NodP.ty k hT (h _ (by simp)) (h _ (by simp))⟩
def wBR (base : Nat) (cs : Array Value) (v1 v2 : Value) : Wrd := ⟨[114, 32], fun v W => ∃ g g5, base ≤ g ∧ base ≤ g5 ∧ v = .slice (some ⟨g, 0, none⟩) 3 3 ∧ Blk W g 32 #[.slice (some ⟨g5, 0, none⟩) 1 1, v1, v2] ∧ Blk W g5 114 cs, fun _ _ _ _ _ h hT k => by
  obtain ⟨g, g5, h1, h2, h3, h4, h5⟩ := k
  exact ⟨g, g5, h1, h2, h3, hT.blk h4 (h _ (by simp)), hT.blk h5 (h _ (by simp))⟩⟩
theorem tyw_then {n0 : Nat} {σ : List TypeId} {w W W' : World} (h : TyW n0 σ w W) (hb : Below w.heap.size W W') (hn : n0 ≤ w.heap.size) : TyW n0 σ w W' :=
  ⟨h.below.trans (hb.mono hn), fun b o e t => (hb.block b (Array.getElem?_eq_some_iff.1 e).1).trans (h.keep b o e t)⟩
def BackOut (w : World) (base : Nat) (r : List Mk × Say) (e : Ending) (w' : World) : Prop := ∃ vp vo, e = .returned (.tuple #[vp, vo]) ∧ MkO w' base vp r.1 ∧ SayV w' base vo r.2 ∧ TyW base [157] w w'
set_option maxRecDepth 100000 in
theorem back31_any (base : Nat) (A : Option Addr) (c : Nat) (H : List Txn) (level : Int) (Al : Option Addr) (cl : Nat) (L : List Fct) (Ap : Option Addr) (cp : Nat) (path : List Mk) (At0 : Option Addr) (ct0 : Nat) (tree : List Nod) (w : World) (h : TxnS w (Old w) (.slice A H.length c) H) (hn : SmallH H) (hL : FctS w (Old w) (.slice Al L.length cl) L) (hF : FitF L)
    (hr : replB H level L = true) (hl : L.length < 20000) (hTB : TabB w) (hbase : base ≤ w.heap.size) (hP : MkO w base (.slice Ap path.length cp) path) (ht : NodP w base (.slice At0 tree.length ct0) tree) (hz : sizeM path + tree.length ≤ 100000000) (hc1 : ∀ m ∈ path, CycN m.done) (hc2 : CycN tree) :
    Calls Tryz.prog 101 #[.agg #[.slice A H.length c], .int .i64 level, .slice Al L.length cl, .slice Ap path.length cp, .slice At0 tree.length ct0] w (BackOut w base (backP H level L path.reverse tree)) := by
  obtain ⟨W0, hW0⟩ : ∃ W0, (w.alloc (.cells #[.slice A H.length c] 24)).alloc (.cells #[.int .i64 0, .slice none 0 0, .slice none 0 0, .slice none 0 0] 35) = W0 := ⟨_, rfl⟩
  have hB := below_two hW0
  have k0 := Blk.two1 hW0
  have k1 := Blk.two2 hW0
  have hun := hide (fun W (hb : Below w.heap.size w W) At ct tr (ht : NodS W (Old W) (.slice At (List.length tr) ct) tr) (hN : FitN tr) => under25_any A c H level Al cl L At ct tr W (h.below hb) hn (hL.below hb) hF ht hN hr hl (hTB.below hb))
  have hbr := hide (fun k (hk : k < path.length) tr => back_right (H := H) (level := level) (L := L) hk tr)
  have hbl := hide (fun k (hk : k < path.length) tr => back_left (H := H) (level := level) (L := L) hk tr)
  have hcp : path.length ≤ cp := by
    obtain ⟨_, _, e, h1⟩ := SlR.len (MkO.s hP)
    simp only [Value.slice.injEq] at e
    omega
  have hpl : path.length ≤ 100000000 := Nat.le_trans (sizeM_le (p := path)) (by omega)
  have hP0 := hide (hP.below hB)
  have ht0 := ht.below hB
  have hszp := hide (fun k (hk : k < path.length) => (by
    have := sizeM_take path (k + 1)
    rw [List.take_succ_eq_append_getElem hk, sizeM_snoc] at this
    exact this : sizeM (path.take k) + (1 + path[k].done.length) ≤ sizeM path))
  have hsst := hide (fun k (hk : k < path.length) => (by rw [List.take_succ_eq_append_getElem hk, sizeM_snoc] : sizeM (path.take (k + 1)) = sizeM (path.take k) + (1 + path[k].done.length)))
  have hcy := hide (fun k (hk : k < path.length) => hc1 path[k] (List.getElem_mem hk))
  obtain ⟨R, hR⟩ : ∃ R, backP H level L path.reverse tree = R := ⟨_, rfl⟩
  have hR0 : Hid (R = backP H level L (path.take path.length).reverse tree) := hide (by rw [List.take_length]; exact hR.symm)
  have hz0 : Hid (sizeM (path.take path.length) + tree.length ≤ 100000000) := hide (by rw [List.take_length]; exact hz)
  have hnone : Hid (∀ tr, backP H level L (path.take 0).reverse tr = ([], ⟨2, [], underL H level L tr, []⟩)) := hide fun tr => rfl
  rw [hR]
  clear h hL hF hTB hP ht hR hz hc1
  replace hc2 := hide hc2
  go_enter Tryz.func101, Tryz.ntmps101
  go_wp2_with fail
  clear hW0
  go_loopw [3, 4, 12] (fun s3 s4 _ wr => ∃ (k : Nat) (tr : List Nod) (At : Option Addr) (ct : Nat), k ≤ path.length ∧ s3 = .slice Ap k cp ∧ s4 = .slice At tr.length ct ∧ NodP wr base (.slice At tr.length ct) tr ∧ MkO wr base (.slice Ap path.length cp) path ∧ Blk wr w.heap.size 24 #[.slice A H.length c] ∧ Blk wr (w.heap.size + 1) 35 #[.int .i64 0, .slice none 0 0, .slice none 0 0, .slice none 0 0] ∧
    Hid (R = backP H level L (path.take k).reverse tr) ∧ Hid (sizeM (path.take k) + tr.length ≤ 100000000) ∧ Hid (CycN tr) ∧ Below w.heap.size w wr) (fun s3 _ _ _ => match s3 with | .slice _ n _ => n | _ => 0)
  case atStart => exact ⟨path.length, tree, At0, ct0, Nat.le_refl _, rfl, rfl, ht0, hP0.out, k0, k1, hR0, hz0, hc2, hB⟩
  case round =>
    clear k0 k1 ht0 hP0 hR0 hz0 hc2 hB
    obtain ⟨Wo, rfl⟩ : ∃ Wo, Wo = wr := ⟨_, rfl⟩
    obtain ⟨j, tr, At, ct, hj, rfl, rfl, ht, hP, k0, k1, hR, hz, hc, hb⟩ := hrel
    have hsz := hb.size
    cases j with
    | zero =>
      have hR0 := hide (hR.out.trans (hnone.out tr))
      have hu1 := hide (hun.out Wo hb At ct tr ht.s ⟨by have := hz.out; omega, hc.out⟩)
      obtain ⟨UT, hUT⟩ : ∃ UT, underL H level L tr = UT := ⟨_, rfl⟩
      rw [hUT] at hu1 hR0
      have c0 := Blk.n0 k0
      clear hun hbr hbl hszp hsst hcy hnone hR hz hc hP ht hUT
      go_wp2_with fail
      refine hu1.out.mono ?_
      rintro e w3 ⟨vU, rfl, hvU, hb3⟩
      have hb4 := hb.trans (hb3.mono hsz)
      have n4 := k1.below hb3 k1.lt
      have oU : NodO w3 w.heap.size vU UT := hvU.base hsz
      obtain ⟨Au, cu, rfl⟩ := OwnR.form oU
      clear hu1 hb3 hvU k0 k1 c0 hb
      have z0 := Blk.n0 n4
      have z1 := Blk.n1 n4
      have z2 := Blk.n2 n4
      have z3 := Blk.n3 n4
      have f0 := n4.frozen 0
      have f1 := n4.frozen 1
      have f2 := n4.frozen 2
      have f3 := n4.frozen 3
      have hBo := hide (setO_below (a := (.int .i64 2)) (b := (.slice none 0 0)) (c := (.slice Au UT.length cu)) (d := (.slice none 0 0)) hb4 (show w.heap.size ≤ w.heap.size + 1 by omega))
      have hTo := setO_ty (n0 := w.heap.size) (a := (.int .i64 2)) (b := (.slice none 0 0)) (c := (.slice Au UT.length cu)) (d := (.slice none 0 0)) n4 (by omega)
      have kz := setO_blk (a := (.int .i64 2)) (b := (.slice none 0 0)) (c := (.slice Au UT.length cu)) (d := (.slice none 0 0)) n4
      have y0 := kz.cell 0
      have y1 := kz.cell 1
      have y2 := kz.cell 2
      have y3 := kz.cell 3
      unfold setO at y0 y1 y2 y3
      simp only [gA, gZ, gS] at y0 y1 y2 y3
      have oG := hide (NodO.base (hTo.ownR NodR.stab oU (by decide)) hbase)
      clear n4 oU kz hTo hb4
      go_wp2_with fail
      exact bodyPost_ret (v := .tuple #[.slice none 0 0, .agg #[.int .i64 2, .slice none 0 0, .slice Au UT.length cu, .slice none 0 0]]) (by simp [results, Tryz.results101, go_sem, y0, y1, y2, y3]) rfl ⟨_, _, rfl, by rw [hR0.out]; exact MkO.nil _ _, by rw [hR0.out]; exact ⟨_, _, _, rfl, World.ownsRow_nil _ _ _ _, oG.out, FctO.nil _ _⟩, TyW.calm hBo.out hbase⟩
    | succ k =>
      have hk : k < path.length := by omega
      have hk0 : (0 : Int) ≤ (k : Int) := Int.natCast_nonneg _
      have hk4 : (k : Int) ≤ 100000000 := by omega
      have hwk := Go.IntWalk.wrap64_in (k : Int) (by omega)
      have hk1 : (k : Int) + 1 ≤ (cp : Int) := by omega
      have hk2 : (k : Int) ≤ (cp : Int) := by omega
      obtain ⟨gp, Ad, cd, rfl, hgp, hD, ⟨cs, kb⟩, d0, d1, d2, d3, d4, hset⟩ := MkO.at_ hP hk
      have hgl := kb.lt
      have hr1 := hide (hbr.out k hk tr)
      have hl1 := hide (hbl.out k hk tr)
      have hz1 := hide (hsst.out k hk)
      have hcd := hide (hcy.out k hk)
      obtain ⟨X, hX⟩ : ∃ X, path[k] = X := ⟨_, rfl⟩
      rw [hX] at hD d0 d1 d2 d3 d4 hset hr1 hl1 hz1 hcd
      obtain ⟨⟨xk, xa, xb⟩, xq, xd⟩ := X
      dsimp only at hD d0 d1 d2 d3 d4 hset hr1 hl1 hz1 hcd
      replace hX := hide hX
      cases xq with
      | false =>
        have hl2 := hide (hR.out.trans (hl1.out (by trivial)))
        have hm := hset true At ct tr ht
        obtain ⟨W2, hW2⟩ : ∃ W2, (Wo.setCell ⟨gp, k * 5 + 3, none⟩ (.bool true)).setCell ⟨gp, k * 5 + 4, none⟩ (.slice At tr.length ct) = W2 := ⟨_, rfl⟩
        rw [hW2] at hm
        have hT2 : TyW base [157] Wo W2 := by
          rw [← hW2]
          exact (TyW.put kb hgp (by simp) _).trans (TyW.put (kb.set_ (k * 5 + 3) (.bool true)) hgp (by simp) _)
        have hTw : TyW base [157] w W2 := (TyW.calm hb hbase).trans hT2
        have k2 := hT2.blk k1 (by decide)
        have g3 := kb.frozen (k * 5 + 3)
        have g4 := (kb.set_ (k * 5 + 3) (.bool true)).frozen (k * 5 + 4)
        have e4 := (kb.set_ (k * 5 + 3) (.bool true)).cell (k * 5 + 4)
        have hlen : (path.set k ⟨⟨xk, xa, xb⟩, true, tr⟩).length = path.length := List.length_set
        have hm2 := MkO.take (k := k + 1) hm (by rw [hlen]; omega)
        have htk : (path.set k ⟨⟨xk, xa, xb⟩, true, tr⟩).take (k + 1) = path.take k ++ [⟨⟨xk, xa, xb⟩, true, tr⟩] := by rw [List.take_set, take_set hk]
        rw [htk] at hm2
        have e4b : (Wo.setCell ⟨gp, k * 5 + 3, none⟩ (.bool true)).cell? ⟨gp, k * 5 + 4, none⟩ = some (.slice Ad xd.length cd) := by
          rw [World.cell?_setCell_other _ _ _ _ (by simp)]; exact d4
        clear hm hT2 hset hbr hbl hszp hsst hcy hun hnone hr1 hl1 hz1 hcd hR hz hc hP ht hX hD htk hlen kb e4
        have z0 := Blk.n0 k2
        have z1 := Blk.n1 k2
        have z2 := Blk.n2 k2
        have z3 := Blk.n3 k2
        have f0 := k2.frozen 0
        have f1 := k2.frozen 1
        have f2 := k2.frozen 2
        have f3 := k2.frozen 3
        have hB2 : Below w.heap.size W2 W2 := Below.refl _ _
        have hBo := hide (setO_below (a := (.int .i64 0)) (b := (.slice none 0 0)) (c := (.slice none 0 0)) (d := (.slice none 0 0)) hB2 (show w.heap.size ≤ w.heap.size + 1 by omega))
        have hTo := setO_ty (n0 := w.heap.size) (a := (.int .i64 0)) (b := (.slice none 0 0)) (c := (.slice none 0 0)) (d := (.slice none 0 0)) k2 (by omega)
        have kz := setO_blk (a := (.int .i64 0)) (b := (.slice none 0 0)) (c := (.slice none 0 0)) (d := (.slice none 0 0)) k2
        have y0 := kz.cell 0
        have y1 := kz.cell 1
        have y2 := kz.cell 2
        have y3 := kz.cell 3
        unfold setO at y0 y1 y2 y3
        simp only [gA, gZ, gS] at y0 y1 y2 y3
        have oM := hide (show MkO _ base (.slice (some ⟨gp, 0, none⟩) (k + 1) cp) _ from hTo.ownR MkR.stab hm2 (by decide))
        have hTf := hide (tyw_then hTw hBo.out hbase)
        clear hm2 hTw k2 kz hTo hBo k0 k1 hB2
        go_wp2_with fail
        exact bodyPost_ret (v := .tuple #[.slice (some ⟨gp, 0, none⟩) (k + 1) cp, .agg #[.int .i64 0, .slice none 0 0, .slice none 0 0, .slice none 0 0]]) (by simp [results, Tryz.results101, go_sem, y0, y1, y2, y3]) rfl ⟨_, _, rfl, by rw [hl2.out]; exact oM.out, by rw [hl2.out]; exact ⟨_, _, _, rfl, World.ownsRow_nil _ _ _ _, NodO.nil _ _, FctO.nil _ _⟩, hTf.out⟩
      | true =>
        have hr2 := hide (hr1.out (by trivial))
        obtain ⟨nl, hnl⟩ : ∃ nl, (⟨⟨xk, xa, xb⟩, []⟩ :: (xd ++ tr) : List Nod) = nl := ⟨_, rfl⟩
        rw [hnl] at hr2
        have hcc := hide (fun W (hb : Below Wo.heap.size Wo W) g g5 (hg : Wo.heap.size ≤ g) (hg5 : Wo.heap.size ≤ g5) (kg : Blk W g 32 #[.slice (some ⟨g5, 0, none⟩) 1 1, .slice Ad xd.length cd, .slice At tr.length ct]) (k5 : Blk W g5 114 #[.int .i64 xk, .int .i64 xa, .int .i64 xb, .slice none 0 0]) => (by
          have hK : ∀ b, TyK base [114, 3] W b → b < W.heap.size := fun b hb => hb.lt
          have n5 : NodP W base (.slice (some ⟨g5, 0, none⟩) 1 1) [⟨⟨xk, xa, xb⟩, []⟩] := SlR.one k5 rfl nodR_nil ⟨by have := hb.size; omega, _, by simp, _, k5⟩
          have nD := (hD.below hb)
          have nT := (ht.below hb)
          have hrows : SlR 1 (RowN (TyK base [114, 3] W)) W (Old W) (.slice (some ⟨g, 0, none⟩) 3 3) [[⟨⟨xk, xa, xb⟩, []⟩], xd, tr] :=
            slr_blk (l := [[(⟨⟨xk, xa, xb⟩, []⟩ : Nod)], xd, tr]) [[.slice (some ⟨g5, 0, none⟩) 1 1], [.slice Ad xd.length cd], [.slice At tr.length ct]] kg rfl (fun i cs x h1 h2 => by
              match i with
              | 0 => simp at h1 h2; subst h1 h2; exact ⟨rfl, _, _, rfl, n5.k hK⟩
              | 1 => simp at h1 h2; subst h1 h2; exact ⟨rfl, _, _, rfl, nD.k hK⟩
              | 2 => simp at h1 h2; subst h1 h2; exact ⟨rfl, _, _, rfl, nT.k hK⟩
              | i + 3 => simp at h1) kg.lt (by simp)
          have := concat31_any (TyK base [114, 3] W) (some ⟨g, 0, none⟩) 3 [[⟨⟨xk, xa, xb⟩, []⟩], xd, tr] W hK hrows (by simp) (by have := hz.out; have := hz1.out; simp; omega)
          refine this.mono ?_
          rintro e w' ⟨v, rfl, hv, hb2⟩
          have e : [[(⟨⟨xk, xa, xb⟩, []⟩ : Nod)], xd, tr].flatten = ⟨⟨xk, xa, xb⟩, []⟩ :: (xd ++ tr) := by simp
          rw [e] at hv
          rw [hnl] at hv
          exact ⟨v, rfl, NodP.of_k hv hb2 (Nat.le_trans hbase (Nat.le_trans hsz hb.size)), hb2⟩ : Calls Tryz.prog 166 #[.slice (some ⟨g, 0, none⟩) 3 3] W fun e w' => ∃ v, e = .returned v ∧ NodP w' base v nl ∧ Below W.heap.size W w'))
        go_upto_region 6 with fail
        refine wp_region_tabs Wo.heap.size [wV (.pointer (some ⟨gp, k * 5, none⟩)), wV (.pointer (some ⟨gp, k * 5, none⟩)), wV (.pointer (some ⟨gp, k * 5, none⟩)), wV (.agg #[.int .i64 xk, .int .i64 xa, .int .i64 xb]), wV (.agg #[.int .i64 xk, .int .i64 xa, .int .i64 xb, .slice none 0 0]), wS Wo.heap.size 114 1 #[.int .i64 xk, .int .i64 xa, .int .i64 xb, .slice none 0 0], wV (.pointer (some ⟨gp, k * 5, none⟩)), wV (.pointer (some ⟨gp, k * 5, none⟩)), wV (.pointer (some ⟨gp, k * 5 + 4, none⟩)), wV (.slice Ad xd.length cd), wV (.slice At tr.length ct), wBR Wo.heap.size #[.int .i64 xk, .int .i64 xa, .int .i64 xb, .slice none 0 0] (.slice Ad xd.length cd) (.slice At tr.length ct), wNP base nl, wNP base nl] [[], [0], [1], [2], [3], [4], [], [6], [7], [8], [], [5,9,10], [11], [12]] [[], [], [], [], [], [], [], [], [], [], [], [], [], []] [[], [], [], [], [], [114], [], [], [], [], [], [114, 32], [114, 3], [114, 3]] [] [] (Nat.le_refl _) (by kernel_rfl) (by kernel_rfl) (by kernel_rfl) (by kernel_rfl) (by kernel_rfl) (by kernel_rfl) rfl trivial (by kernel_rfl) (by kernel_rfl) ?hstep ?hend
        case hstep =>
          simp only [StepsT, WantsT, RsT, acV, wV, wO, wS, wB, wU, wX, wK, wA, wBR, wNP, updV, gA, gZ, gS, List.getD_cons_zero, List.getD_cons_succ, List.getD_nil, Act.put, sA, sZ, sS, Nat.zero_add, Nat.reduceAdd, if_true, and_true]
          refine ⟨?_, ?o1, ?o2, ?o3, ?o4, ?o5, ?_, ?o7, ?o8, ?o9, ?_, ?o11, ?o12, ?o13⟩
          all_goals intro vs W R hR hT hd
          all_goals have hsz := hT.size
          case o1 =>
            rw [hd]
            go_wp2
            exact ⟨rfl, _, rfl, hR _ _ rfl (TyW.refl _ _ _)⟩
          case o2 =>
            rw [hd]
            go_wp2
            exact ⟨rfl, _, rfl, hR _ _ rfl (TyW.refl _ _ _)⟩
          case o3 =>
            have c0 := (hT.below.cell (p := ⟨gp, k * 5, none⟩) hgl).trans d0
            have c1 := (hT.below.cell (p := ⟨gp, k * 5 + 1, none⟩) hgl).trans d1
            have c2 := (hT.below.cell (p := ⟨gp, k * 5 + 2, none⟩) hgl).trans d2
            rw [hd]
            go_wp2
            exact ⟨rfl, _, rfl, hR _ _ rfl (TyW.refl _ _ _)⟩
          case o4 =>
            rw [hd]
            go_wp2
            exact ⟨rfl, _, rfl, hR _ _ rfl (TyW.refl _ _ _)⟩
          case o5 =>
            rw [hd]
            go_wp2
            exact ⟨rfl, _, rfl, hR _ _ ⟨W.heap.size, hsz, rfl, Blk.new _ _ _⟩ (TyW.calm ((Below.refl _ _).alloc (Nat.le_refl _) _) hsz)⟩
          case o7 =>
            rw [hd]
            go_wp2
            exact ⟨rfl, _, rfl, hR _ _ rfl (TyW.refl _ _ _)⟩
          case o8 =>
            rw [hd]
            go_wp2
            exact ⟨rfl, _, rfl, hR _ _ rfl (TyW.refl _ _ _)⟩
          case o9 =>
            have c4 := (hT.below.cell (p := ⟨gp, k * 5 + 4, none⟩) hgl).trans d4
            rw [hd]
            go_wp2
            exact ⟨rfl, _, rfl, hR _ _ rfl (TyW.refl _ _ _)⟩
          case o11 =>
            obtain ⟨⟨g5, hg5, e5, k5⟩, e9, e10⟩ := hd
            rw [e5, e9, e10]
            go_wp2
            exact ⟨rfl, _, rfl, hR _ _ ⟨W.heap.size, g5, hsz, hg5, rfl, Blk.new _ _ _, k5.alloc _⟩ (TyW.calm ((Below.refl _ _).alloc (Nat.le_refl _) _) hsz)⟩
          case o12 =>
            obtain ⟨g, g5, hg, hg5, e11, kg, k5⟩ := hd
            rw [e11]
            go_wp2_with fail
            refine (hcc.out W hT.below g g5 hg hg5 kg k5).mono ?_
            rintro e W2 ⟨v, rfl, hv, hb2⟩
            go_wp2
            exact ⟨rfl, _, rfl, hR _ _ hv (TyW.calm hb2 hsz)⟩
          case o13 =>
            go_wp2
            exact ⟨rfl, _, rfl, hR _ _ hd (TyW.refl _ _ _)⟩
          all_goals (go_wp2; exact ⟨rfl, _, rfl, hR _ _ (by first | rfl | trivial) (TyW.refl _ _ _)⟩)
        case hend =>
          intro vs W hT hd
          have o13 : NodP W base (vs 13) nl := hd 13 (by simp) (by kernel_rfl)
          have hb6 := hT.below
          simp only [acV, gA, gZ, gS, Act.put, sA, sZ, sS, List.length_cons, List.length_nil, Nat.reduceAdd]
          obtain ⟨A6, c6, e6⟩ := o13.form
          rw [e6] at o13 ⊢
          have hP6 := hide (hP.below hb6)
          have k06 := k0.below hb6 k0.lt
          have k16 := k1.below hb6 k1.lt
          have hB6 := hb.trans (hb6.mono hsz)
          have hcn : Hid (CycN nl) := hide fun n hn => by
            rw [← hnl, List.mem_cons, List.mem_append] at hn
            rcases hn with rfl | hn | hn
            · simp
            · exact hcd.out n hn
            · exact hc.out n hn
          have hzn : Hid (sizeM (path.take k) + nl.length ≤ 100000000) := hide (by rw [← hnl]; have := hz.out; rw [hz1.out] at this; simp only [List.length_cons, List.length_append]; omega)
          have hRn : Hid (R = backP H level L (path.take k).reverse nl) := hide (by rw [hR.out]; exact hr2.out)
          clear hd hT hcc hr2 hr1 hl1 hz1 hz hR hc hcd hset kb d0 d1 d2 d3 d4 hD hP k0 k1 hb6 e6 hX hnl
          go_wp2
          go_roundw
          case rel => exact ⟨k, nl, A6, c6, by omega, rfl, rfl, o13, hP6.out, k06, k16, hRn, hzn, hcn, hB6⟩
          case measure => exact Nat.lt_succ_self k
end Go.Proofs.YtjomijnbnbideaaGreatDoor

namespace Go.Proofs.YtjomijnbnbideaaGreatDoor
open Go.RowKit Go.Inq
set_option maxHeartbeats 4000000
attribute [local go_sem ↓] Go.wp_at_zero Go.wp_at_succ

def RdW (W : World) (g : Nat) (l : List Nod) : Prop := ∃ A c, Blk W g 226 #[.slice A l.length c] ∧ NodS W (fun b => b < g) (.slice A l.length c) l
theorem RdW.lt {W : World} {g : Nat} {l : List Nod} (h : RdW W g l) : g < W.heap.size := by
  obtain ⟨A, c, h1, -⟩ := h
  exact h1.lt
theorem RdW.below {W W' : World} {g : Nat} {l : List Nod} (h : RdW W g l) (hb : Below W.heap.size W W') : RdW W' g l := by
  have hlt := h.lt
  obtain ⟨A, c, h1, h2⟩ := h
  exact ⟨A, c, h1.below hb h1.lt, h2.keep (Agree.below hb fun b h => by omega) fun _ h => h⟩
theorem RdW.ty {W W' : World} {g n0 : Nat} {σ : List TypeId} {l : List Nod} (h : RdW W g l) (hT : TyW n0 σ W W') (hs : 226 ∉ σ) (hg : g ≤ n0) : RdW W' g l := by
  obtain ⟨A, c, h1, h2⟩ := h
  exact ⟨A, c, hT.blk h1 hs, h2.keep (Agree.below hT.below fun b h => by omega) fun _ h => h⟩
def noTree : List PanicEntry := [{ v := .iface 284 (.agg #[]), recovered := false }]
def NextOut (g : Nat) (x : Nod) (l : List Nod) (w : World) (e : Ending) (w' : World) : Prop := ∃ A c, e = .returned (.agg #[.int .i64 x.c.key, .int .i64 x.c.a, .int .i64 x.c.b, .slice A x.cyc.length c]) ∧ IntS w' (fun b => b < g) (.slice A x.cyc.length c) x.cyc ∧ RdW w' g l ∧ TyW g [226] w w'
set_option maxRecDepth 100000 in
theorem next24_no (g : Nat) (w : World) (h : RdW w g []) : Calls Tryz.prog 208 #[.pointer (some ⟨g, 0, none⟩)] w fun e w' => e = .panicked noTree ∧ TyW g [226] w w' := by
  obtain ⟨A, c, kg, -⟩ := h
  obtain ⟨W1, hW1⟩ : ∃ W1, w.alloc (.cells #[.int .i64 0, .int .i64 0, .int .i64 0, .slice none 0 0] 114) = W1 := ⟨_, rfl⟩
  have hb := below_allocEq (Below.refl w.heap.size w) hW1 (Nat.le_refl _)
  have k1 := kg.below hb kg.lt
  have hT : TyW g [226] w W1 := TyW.calm hb (Nat.le_of_lt kg.lt)
  have c0 := k1.cell 0
  simp only [gA, gZ, List.length_nil] at c0
  clear kg k1 hb
  go_enter Tryz.func208, Tryz.ntmps208
  go_wp2
  exact ⟨rfl, rfl, hT⟩
set_option maxRecDepth 100000 in
theorem next24_ok (g : Nat) (x : Nod) (l : List Nod) (w : World) (h : RdW w g (x :: l)) (hn : l.length + 1 ≤ maxLen) : Calls Tryz.prog 208 #[.pointer (some ⟨g, 0, none⟩)] w (NextOut g x l w) := by
  obtain ⟨A, c, kg, hS⟩ := h
  have hcap := hS.cap
  have hdr := SlR.drop hS (k := 1) (by simp)
  obtain ⟨b, off, Ay, cy, rfl, hb, d⟩ := NodS.at_ hS (i := 0) (by simp)
  obtain ⟨d0, d1, d2, d3, hcy⟩ := d
  unfold maxLen at hn
  simp only [List.getElem_cons_zero, Nat.zero_mul, Nat.add_zero, List.length_cons, Nat.add_sub_cancel, List.drop_succ_cons, List.drop_zero, Option.map_some, Addr.add_lit, Nat.one_mul] at d0 d1 d2 d3 hcy hdr kg hcap
  obtain ⟨⟨xk, xa, xb⟩, xc⟩ := x
  dsimp only at d0 d1 d2 d3 hcy
  have hgl := kg.lt
  obtain ⟨V, hV⟩ : ∃ V, (if c = 1 then (some ⟨b, off, none⟩ : Option Addr) else some ⟨b, off + 4, none⟩) = V := ⟨_, rfl⟩
  rw [hV] at hdr
  obtain ⟨W1, hW1⟩ : ∃ W1, w.alloc (.cells #[.int .i64 0, .int .i64 0, .int .i64 0, .slice none 0 0] 114) = W1 := ⟨_, rfl⟩
  have hb1 := below_allocEq (Below.refl w.heap.size w) hW1 (Nat.le_refl _)
  have s1 := size_allocEq hW1
  have r1 := Blk.newEq hW1
  have k1 := kg.below hb1 hgl
  have hA1 : Agree (fun q => q < g) w W1 := Agree.below hb1 fun q hq => by omega
  have e0 := (hA1.cell (p := ⟨b, off, none⟩) hb).trans d0
  have e1 := (hA1.cell (p := ⟨b, off + 1, none⟩) hb).trans d1
  have e2 := (hA1.cell (p := ⟨b, off + 2, none⟩) hb).trans d2
  have e3 := (hA1.cell (p := ⟨b, off + 3, none⟩) hb).trans d3
  obtain ⟨W2, hW2⟩ : ∃ W2, W1.alloc (.cells #[.int .i64 xk, .int .i64 xa, .int .i64 xb, .slice Ay xc.length cy] 114) = W2 := ⟨_, rfl⟩
  have hb2 := hb1.trans ((below_allocEq (Below.refl W1.heap.size W1) hW2 (Nat.le_refl _)).mono hb1.size)
  have n2 := Blk.newEq hW2
  have k2 := k1.allocEq hW2
  have r2 := r1.allocEq hW2
  rw [s1] at n2
  obtain ⟨W3, hW3⟩ : ∃ W3, W2.setCell ⟨g, 0, none⟩ (.slice V l.length (c - 1)) = W3 := ⟨_, rfl⟩
  have hne1 : w.heap.size ≠ g := by omega
  have hne2 : w.heap.size + 1 ≠ g := by omega
  have k3 : Blk W3 g 226 #[.slice V l.length (c - 1)] := by rw [← hW3]; exact k2.set_ 0 (.slice V l.length (c - 1))
  have r3 : Blk W3 w.heap.size 114 #[.int .i64 0, .int .i64 0, .int .i64 0, .slice none 0 0] := by rw [← hW3]; exact r2.far (p := ⟨g, 0, none⟩) hne1 (.slice V l.length (c - 1))
  have n3 : Blk W3 (w.heap.size + 1) 114 #[.int .i64 xk, .int .i64 xa, .int .i64 xb, .slice Ay xc.length cy] := by rw [← hW3]; exact n2.far (p := ⟨g, 0, none⟩) hne2 (.slice V l.length (c - 1))
  have hT3 : TyW g [226] w W3 := by
    rw [← hW3]
    exact (TyW.calm hb2 (Nat.le_of_lt hgl)).trans (TyW.put k2 (Nat.le_refl _) (by simp) _)
  obtain ⟨W4, hW4⟩ : ∃ W4, (((W3.setCell ⟨w.heap.size, 0, none⟩ (.int .i64 xk)).setCell ⟨w.heap.size, 1, none⟩ (.int .i64 xa)).setCell ⟨w.heap.size, 2, none⟩ (.int .i64 xb)).setCell ⟨w.heap.size, 3, none⟩ (.slice Ay xc.length cy) = W4 := ⟨_, rfl⟩
  have hb4 : Below w.heap.size W3 W4 := by
    rw [← hW4]
    exact ((((Below.refl w.heap.size W3).setCell (p := ⟨w.heap.size, 0, none⟩) (Nat.le_refl _) _).setCell (p := ⟨w.heap.size, 1, none⟩) (Nat.le_refl _) _).setCell (p := ⟨w.heap.size, 2, none⟩) (Nat.le_refl _) _).setCell (p := ⟨w.heap.size, 3, none⟩) (Nat.le_refl _) _
  have r4 : Blk W4 w.heap.size 114 #[.int .i64 xk, .int .i64 xa, .int .i64 xb, .slice Ay xc.length cy] := by
    rw [← hW4]
    have := (((r3.set_ 0 (.int .i64 xk)).set_ 1 (.int .i64 xa)).set_ 2 (.int .i64 xb)).set_ 3 (.slice Ay xc.length cy)
    simpa only [sA, sZ, sS] using this
  have k4 : Blk W4 g 226 #[.slice V l.length (c - 1)] := k3.below hb4 hgl
  have hT4 : TyW g [226] w W4 := ⟨hT3.below.trans (hb4.mono (Nat.le_of_lt hgl)), fun q o ho hno => (hb4.block q (Array.getElem?_eq_some_iff.1 ho).1).trans (hT3.keep q o ho hno)⟩
  have hA4 : Agree (fun q => q < g) w W4 := Agree.below hT4.below fun q hq => hq
  have hO : NextOut g ⟨⟨xk, xa, xb⟩, xc⟩ l w (.returned (.agg #[.int .i64 xk, .int .i64 xa, .int .i64 xb, .slice Ay xc.length cy])) W4 :=
    ⟨Ay, cy, rfl, hcy.keep hA4 fun _ h => h, ⟨V, c - 1, k4, hdr.keep NodR.stab hA4 fun _ h => h⟩, hT4⟩
  have hc1 : (1 : Int) ≤ (l.length + 1 : Int) := by omega
  have hc2 : (l.length + 1 : Int) ≤ (c : Int) := by omega
  have g0 := Blk.n0 k1
  have g1 := Blk.n0 k2
  have g2 := k2.frozen 0
  have v0 := Blk.n0 r3
  have v1 := Blk.n1 r3
  have v2 := Blk.n2 r3
  have v3 := Blk.n3 r3
  have fr0 := r3.frozen 0
  have fr1 := r3.frozen 1
  have fr2 := r3.frozen 2
  have fr3 := r3.frozen 3
  have m0 := Blk.n0 n3
  have m1 := Blk.n1 n3
  have m2 := Blk.n2 n3
  have m3 := Blk.n3 n3
  have y0 := Blk.n0 r4
  have y1 := Blk.n1 r4
  have y2 := Blk.n2 r4
  have y3 := Blk.n3 r4
  replace hO := hide hO
  clear hT4 hA4 hT3 hb4 k4 k3 r4 n3 r1 r2 k1 k2 n2 hcy hdr hS d0 d1 d2 d3 hA1 hb1 hb2 hb r3 kg
  go_enter Tryz.func208, Tryz.ntmps208
  go_wp2_with fail
  exact bodyPost_ret (v := .agg #[.int .i64 xk, .int .i64 xa, .int .i64 xb, .slice Ay xc.length cy]) (by simp [results, Tryz.results208, go_sem, y0, y1, y2, y3]) rfl hO.out
theorem end24_ok (g : Nat) (A : Option Addr) (c : Nat) (w : World) (kg : Blk w g 226 #[.slice A 0 c]) : Calls Tryz.prog 207 #[.pointer (some ⟨g, 0, none⟩)] w fun e w' => e = .returned (.tuple #[]) ∧ w = w' := by
  have c0 := kg.cell 0
  simp only [gA, gZ, List.length_nil] at c0
  clear kg
  go_enter Tryz.func207, Tryz.ntmps207
  go_wp2
  go_end0
  exact ⟨rfl, rfl⟩
theorem end24_no (g : Nat) (A : Option Addr) (n c : Nat) (w : World) (kg : Blk w g 226 #[.slice A (n + 1) c]) : Calls Tryz.prog 207 #[.pointer (some ⟨g, 0, none⟩)] w fun e w' => e = .panicked noTree ∧ w = w' := by
  have c0 := Blk.n0 kg
  have g1 : decide (((n + 1 : Nat) : Int) > 0) = true := by simp
  clear kg
  go_enter Tryz.func207, Tryz.ntmps207
  go_wp2
  exact ⟨rfl, rfl, rfl⟩
theorem leaves_le : ∀ t : Tr, t.leaves ≤ t.flat.length
  | .leaf _ => by simp [Tr.leaves, Tr.flat]
  | .fork _ l r => by
    have h1 := leaves_le l
    have h2 := leaves_le r
    simp [Tr.leaves, Tr.flat]; omega
theorem deep_le : ∀ t : Tr, t.deep ≤ t.flat.length
  | .leaf _ => by simp [Tr.deep, Tr.flat]
  | .fork _ l r => by
    have h1 := deep_le l
    have h2 := deep_le r
    simp only [Tr.deep, Tr.flat, List.length_cons, List.length_append]; omega
theorem field24 (k a b : Int) (v : Value) (w : World) : (Instr.field 114 (.agg #[.int .i64 k, .int .i64 a, .int .i64 b, v]) 1).run Tryz.prog w = .ok v w := by kernel_rfl
def ShapeOut (g k : Nat) (l : List Nod) (w : World) (e : Ending) (w' : World) : Prop :=
  (parseT k l = none → e = .panicked noTree) ∧ (∀ t r, parseT k l = some (t, r) → e = .returned (.tuple #[.int .i64 (t.leaves : Int), .int .i64 (t.deep : Int)]) ∧ RdW w' g r) ∧ TyW g [226] w w'
theorem parse_nil (k : Nat) : parseT k [] = none := by cases k <;> rfl
theorem parse_leaf (k : Nat) {n : Nod} (l : List Nod) (h : n.cyc ≠ []) : parseT (k + 1) (n :: l) = some (.leaf n, l) := by
  conv => lhs; unfold parseT
  rw [if_pos h]
theorem parse_fork (k : Nat) {n : Nod} (l : List Nod) (h : n.cyc = []) : (parseT k l = none → parseT (k + 1) (n :: l) = none) ∧ ∀ x r1, parseT k l = some (x, r1) → (parseT k r1 = none → parseT (k + 1) (n :: l) = none) ∧ ∀ y r2, parseT k r1 = some (y, r2) → parseT (k + 1) (n :: l) = some (.fork n.c x y, r2) := by
  refine ⟨fun h1 => ?_, fun x r1 h1 => ⟨fun h2 => ?_, fun y r2 h2 => ?_⟩⟩ <;> conv => lhs; unfold parseT
  · rw [if_neg (by rw [h]; simp), h1]
  · rw [if_neg (by rw [h]; simp), h1]; dsimp only; rw [h2]
  · rw [if_neg (by rw [h]; simp), h1]; dsimp only; rw [h2]
set_option maxRecDepth 100000 in
theorem shape24 (g : Nat) : ∀ (k : Nat) (l : List Nod) (w : World), RdW w g l → l.length ≤ 100000000 → l.length ≤ k → Calls Tryz.prog 206 #[.pointer (some ⟨g, 0, none⟩)] w (ShapeOut g k l w) := by
  intro k
  induction k with
  | zero =>
    intro l w h hl hk
    obtain rfl : l = [] := List.length_eq_zero_iff.1 (by omega)
    have hx := hide (next24_no g w h)
    clear h
    go_enter Tryz.func206, Tryz.ntmps206
    go_wp2_with fail
    refine hx.out.mono ?_
    rintro e w1 ⟨rfl, hT⟩
    go_wp2
    refine ⟨rfl, ?_⟩
    unfold ShapeOut
    exact ⟨fun _ => rfl, fun t r e => (by cases e), hT⟩
  | succ k ih =>
    intro l w h hl hk
    cases l with
    | nil =>
      have hx := hide (next24_no g w h)
      clear h ih
      go_enter Tryz.func206, Tryz.ntmps206
      go_wp2_with fail
      refine hx.out.mono ?_
      rintro e w1 ⟨rfl, hT⟩
      go_wp2
      refine ⟨rfl, ?_⟩
      unfold ShapeOut
      exact ⟨fun _ => rfl, fun t r e => (by rw [parse_nil] at e; cases e), hT⟩
    | cons n l =>
      rw [List.length_cons] at hl hk
      have hx := hide (next24_ok g n l w h (by unfold maxLen; omega))
      by_cases hc : n.cyc = []
      · have hp := hide (parse_fork k l hc)
        have hcl : n.cyc.length = 0 := by rw [hc]; rfl
        have h1 := hide (ih l)
        have hih := hide ih
        clear ih h hc
        obtain ⟨P, hP⟩ : ∃ P, ShapeOut g (k + 1) (n :: l) w = P := ⟨_, rfl⟩
        rw [hP]
        replace hP := hide hP
        go_enter Tryz.func206, Tryz.ntmps206
        go_wp2_with fail
        refine hx.out.mono ?_
        rintro e w1 ⟨A, c, rfl, -, hR, hT⟩
        rw [hcl]
        have hfd := field24 n.c.key n.c.a n.c.b (.slice A 0 c)
        have h2 := h1.out w1 hR (by omega) (by omega)
        clear hx h1 hR
        replace h2 := hide h2
        cases hq : parseT k l with
        | none =>
          have hn0 := hide (hp.out.1 hq)
          replace hq := hide hq
          clear hp hih
          go_wp2_with fail
          refine h2.out.mono ?_
          rintro e w2 ⟨s1, -, hT2⟩
          obtain rfl := s1 hq.out
          go_wp2
          refine ⟨rfl, ?_⟩
          rw [← hP.out]
          exact ⟨fun _ => rfl, fun t r e => (by rw [hn0.out] at e; cases e), hT.trans hT2⟩
        | some xr =>
          obtain ⟨x, r1⟩ := xr
          obtain ⟨p1, p2⟩ := hp.out.2 x r1 hq
          have hfl := (parseT_flat hq).1
          have hlr : l.length = x.flat.length + r1.length := by rw [hfl, List.length_append]
          have hxl := leaves_le x
          have hxd := deep_le x
          have hpos := flat_pos x
          replace hq := hide hq
          replace p1 := hide p1
          replace p2 := hide p2
          replace hlr := hide hlr
          clear hp hfl
          go_wp2_with fail
          refine h2.out.mono ?_
          rintro e w2 ⟨-, s2, hT2⟩
          obtain ⟨rfl, hR2⟩ := s2 x r1 hq.out
          have h3 := hide (hih.out r1 w2 hR2 (by have := hlr.out; omega) (by have := hlr.out; omega))
          clear h2 hih hR2 hq s2
          cases hq2 : parseT k r1 with
          | none =>
            have hn0 := hide (p1.out hq2)
            replace hq2 := hide hq2
            clear p1 p2
            go_wp2_with fail
            refine h3.out.mono ?_
            rintro e w3 ⟨s1, -, hT3⟩
            obtain rfl := s1 hq2.out
            go_wp2
            refine ⟨rfl, ?_⟩
            rw [← hP.out]
            exact ⟨fun _ => rfl, fun t r e => (by rw [hn0.out] at e; cases e), (hT.trans hT2).trans hT3⟩
          | some yr =>
            obtain ⟨y, r2⟩ := yr
            have hn0 := hide (p2.out y r2 hq2)
            have hfl := (parseT_flat hq2).1
            have hlr2 : r1.length = y.flat.length + r2.length := by rw [hfl, List.length_append]
            have hyl := leaves_le y
            have hyd := deep_le y
            replace hq2 := hide hq2
            have b1 : x.leaves + y.leaves ≤ 100000000 := by have := hlr.out; omega
            have b2 : 1 + max x.deep y.deep ≤ 100000000 := by have := hlr.out; omega
            clear hfl hlr2 hlr p1 p2
            go_wp2_with fail
            refine h3.out.mono ?_
            rintro e w3 ⟨-, s2, hT3⟩
            obtain ⟨rfl, hR3⟩ := s2 y r2 hq2.out
            clear h3 s2 hq2
            go_wp2
            all_goals
              rw [← hP.out]
              refine ⟨fun e => (by rw [hn0.out] at e; cases e), fun t r e => ?_, (hT.trans hT2).trans hT3⟩
              rw [hn0.out] at e
              simp only [Option.some.injEq, Prod.mk.injEq] at e
              obtain ⟨rfl, rfl⟩ := e
              refine ⟨?_, hR3⟩
              have q1 : (x.leaves : Int) + y.leaves = ((x.leaves + y.leaves : Nat) : Int) := by omega
              rw [q1]
              first
                | (have q2 : 1 + max (x.deep : Int) (y.deep : Int) = ((1 + max x.deep y.deep : Nat) : Int) := by omega
                   rw [q2]; rfl)
                | (have q2 : 1 + (x.deep : Int) = ((1 + max x.deep y.deep : Nat) : Int) := by omega
                   rw [q2]; rfl)
                | (have q2 : 1 + (y.deep : Int) = ((1 + max x.deep y.deep : Nat) : Int) := by omega
                   rw [q2]; rfl)
      · have hp := hide (parse_leaf k l hc)
        have hcl : 0 < n.cyc.length := List.length_pos_iff.2 hc
        have g1 : decide ((n.cyc.length : Int) > 0) = true := by simp; omega
        have g2 : decide (0 < n.cyc.length) = true := by simp; omega
        clear ih h hc
        obtain ⟨P, hP⟩ : ∃ P, ShapeOut g (k + 1) (n :: l) w = P := ⟨_, rfl⟩
        rw [hP]
        replace hP := hide hP
        go_enter Tryz.func206, Tryz.ntmps206
        go_wp2_with fail
        refine hx.out.mono ?_
        rintro e w1 ⟨A, c, rfl, -, hR, hT⟩
        have hfd := field24 n.c.key n.c.a n.c.b (.slice A n.cyc.length c)
        clear hx
        go_wp2
        rw [← hP.out]
        refine ⟨fun e => (by rw [hp.out] at e; cases e), fun t r e => ?_, hT⟩
        rw [hp.out] at e
        simp only [Option.some.injEq, Prod.mk.injEq] at e
        obtain ⟨rfl, rfl⟩ := e
        exact ⟨rfl, hR⟩
end Go.Proofs.YtjomijnbnbideaaGreatDoor

namespace Go.Proofs.YtjomijnbnbideaaGreatDoor
open Go.RowKit Go.Inq
set_option maxHeartbeats 4000000
attribute [local go_sem ↓] Go.wp_at_zero Go.wp_at_succ

set_option maxRecDepth 100000 in
theorem catch24_idle (w : World) (g : Nat) :
    CallsD Tryz.prog 205 #[.pointer (some ⟨g, 0, none⟩), .pointer (some ⟨g + 1, 0, none⟩), .pointer (some ⟨g + 2, 0, none⟩)] .returning w fun e u' w' => e = .returned (.tuple #[]) ∧ u' = .returning ∧ Below w.heap.size w w' := by
  refine callsD_of_wpS Tryz.func205 rfl fun c₀ cs hu => ?_
  change Code.wpS _ _ _ { tmps := #[.pointer (some ⟨g, 0, none⟩), .pointer (some ⟨g + 1, 0, none⟩), .pointer (some ⟨g + 2, 0, none⟩), undef, undef], defers := [] } _ _
  apply wpS_seq
  apply wpS_region
  simp [wpOpsS, go_sem, recoverD, hu, Exit.thenS]
  refine wpS_of_wp ?_
  go_wp2
  cases c₀
  simp_all [bodyPostS, results, Tryz.results205]
  exact Below.refl _ _
set_option maxRecDepth 100000 in
theorem catch24_panicking (older : List PanicEntry) (w : World) (g : Nat) (v0 v1 v2 : Value) (k0 : Blk w g 3 #[v0]) (k1 : Blk w (g + 1) 3 #[v1]) (k2 : Blk w (g + 2) 4 #[v2]) :
    CallsD Tryz.prog 205 #[.pointer (some ⟨g, 0, none⟩), .pointer (some ⟨g + 1, 0, none⟩), .pointer (some ⟨g + 2, 0, none⟩)] (.panicking ({ v := .iface 284 (.agg #[]), recovered := false } :: older)) w fun e u' w' =>
      e = .returned (.tuple #[]) ∧ u' = .panicking ({ v := .iface 284 (.agg #[]), recovered := true } :: older) ∧
        Blk w' g 3 #[.int .i64 0] ∧ Blk w' (g + 1) 3 #[.int .i64 0] ∧ Blk w' (g + 2) 4 #[.bool false] ∧ Below g w w' := by
  refine callsD_of_wpS Tryz.func205 rfl fun c₀ cs hu => ?_
  change Code.wpS _ _ _ { tmps := #[.pointer (some ⟨g, 0, none⟩), .pointer (some ⟨g + 1, 0, none⟩), .pointer (some ⟨g + 2, 0, none⟩), undef, undef], defers := [] } _ _
  apply wpS_seq
  apply wpS_region
  simp [wpOpsS, go_sem, recoverD, hu, Exit.thenS]
  have f0 := k0.frozen 0
  have f1 := k1.frozen 0
  have f2 := k2.frozen 0
  have d0 := Blk.n0 k0
  have d1 := Blk.n0 k1
  have d2 := Blk.n0 k2
  refine wpS_of_wp ?_
  go_wp2
  refine ⟨rfl, _, rfl, .tuple #[], by simp [results, Tryz.results205], rfl, rfl, ?_, ?_, ?_, ?_⟩
  · exact ((k0.set_ 0 _).far (by simp) _).far (by simp) _
  · exact ((k1.far (by simp) _).set_ 0 _).far (by simp) _
  · exact ((k2.far (by simp) _).far (by simp) _).set_ 0 _
  · exact (((Below.refl _ _).setCell (by simp) _).setCell (by simp) _).setCell (by simp) _
theorem results24 {tmps : Array Value} {w : World} {g : Nat} {v0 v1 v2 : Value} (h2 : tmps.getD 2 undef = .pointer (some ⟨g, 0, none⟩)) (h3 : tmps.getD 3 undef = .pointer (some ⟨g + 1, 0, none⟩)) (h4 : tmps.getD 4 undef = .pointer (some ⟨g + 2, 0, none⟩))
    (k0 : Blk w g 3 #[v0]) (k1 : Blk w (g + 1) 3 #[v1]) (k2 : Blk w (g + 2) 4 #[v2]) : (results Tryz.f167 tmps).run Tryz.prog w = .ok (.tuple #[v0, v1, v2]) w := by
  have c0 := Blk.n0 k0
  have c1 := Blk.n0 k1
  have c2 := Blk.n0 k2
  have e2 : tmps[2]?.getD undef = .pointer (some ⟨g, 0, none⟩) := by simpa using h2
  have e3 : tmps[3]?.getD undef = .pointer (some ⟨g + 1, 0, none⟩) := by simpa using h3
  have e4 : tmps[4]?.getD undef = .pointer (some ⟨g + 2, 0, none⟩) := by simpa using h4
  unfold results
  simp [Tryz.results167, e2, e3, e4, go_sem, c0, c1, c2]
def later24 (g : Nat) : Deferred := { target := .fn (.func 205) #[.pointer (some ⟨g, 0, none⟩), .pointer (some ⟨g + 1, 0, none⟩), .pointer (some ⟨g + 2, 0, none⟩)], args := #[] }
theorem leaves24_bad {R : Ending → World → Prop} {tmps : Array Value} {w : World} {g : Nat} {v0 v1 v2 : Value} (k0 : Blk w g 3 #[v0]) (k1 : Blk w (g + 1) 3 #[v1]) (k2 : Blk w (g + 2) 4 #[v2])
    (h2 : tmps.getD 2 undef = .pointer (some ⟨g, 0, none⟩)) (h3 : tmps.getD 3 undef = .pointer (some ⟨g + 1, 0, none⟩)) (h4 : tmps.getD 4 undef = .pointer (some ⟨g + 2, 0, none⟩))
    (h : ∀ w', Below g w w' → R (.returned (.tuple #[.int .i64 0, .int .i64 0, .bool false])) w') :
    Leaves Tryz.prog Tryz.f167 tmps R [later24 g] (.panicking noTree) w := by
  refine leaves_cons (f := 205) (args := #[.pointer (some ⟨g, 0, none⟩), .pointer (some ⟨g + 1, 0, none⟩), .pointer (some ⟨g + 2, 0, none⟩)]) (by simp) (by simp [go_sem]) ?_
  refine (catch24_panicking [] w g v0 v1 v2 k0 k1 k2).mono ?_
  rintro e u' w'' ⟨rfl, rfl, j0, j1, j2, hb⟩
  exact ⟨_, results24 h2 h3 h4 j0 j1 j2, h w'' hb⟩
theorem leaves24_good {R : Ending → World → Prop} {tmps : Array Value} {w : World} {g : Nat} {v0 v1 v2 : Value} (k0 : Blk w g 3 #[v0]) (k1 : Blk w (g + 1) 3 #[v1]) (k2 : Blk w (g + 2) 4 #[v2])
    (h2 : tmps.getD 2 undef = .pointer (some ⟨g, 0, none⟩)) (h3 : tmps.getD 3 undef = .pointer (some ⟨g + 1, 0, none⟩)) (h4 : tmps.getD 4 undef = .pointer (some ⟨g + 2, 0, none⟩))
    (h : ∀ w', Below w.heap.size w w' → R (.returned (.tuple #[v0, v1, v2])) w') : Leaves Tryz.prog Tryz.f167 tmps R [later24 g] .returning w := by
  refine leaves_cons (f := 205) (args := #[.pointer (some ⟨g, 0, none⟩), .pointer (some ⟨g + 1, 0, none⟩), .pointer (some ⟨g + 2, 0, none⟩)]) (by simp) (by simp [go_sem]) ?_
  refine (catch24_idle w g).mono ?_
  rintro e u' w'' ⟨rfl, rfl, hb⟩
  exact ⟨_, results24 h2 h3 h4 (k0.below hb k0.lt) (k1.below hb k1.lt) (k2.below hb k2.lt), h w'' hb⟩
def shapeR (l : List Nod) : Int × Int × Bool := match treeO l with
  | some t => ((t.leaves : Int), (t.deep : Int), true)
  | none => (0, 0, false)
theorem shapeR_none {l : List Nod} (h : parseT l.length l = none) : shapeR l = (0, 0, false) := by
  unfold shapeR treeO; rw [h]
theorem shapeR_more {l : List Nod} {t : Tr} {n : Nod} {r : List Nod} (h : parseT l.length l = some (t, n :: r)) : shapeR l = (0, 0, false) := by
  unfold shapeR treeO; rw [h]
theorem shapeR_some {l : List Nod} {t : Tr} (h : parseT l.length l = some (t, [])) : shapeR l = ((t.leaves : Int), (t.deep : Int), true) := by
  unfold shapeR treeO; rw [h]
def ShapOut (w : World) (r : Int × Int × Bool) (e : Ending) (w' : World) : Prop := e = .returned (.tuple #[.int .i64 r.1, .int .i64 r.2.1, .bool r.2.2]) ∧ Below w.heap.size w w'
theorem four24 {w W : World} {v0 v1 v2 : Value} {cs : Array Value} (hW : (((w.alloc (.cells #[v0] 3)).alloc (.cells #[v1] 3)).alloc (.cells #[v2] 4)).alloc (.cells cs 226) = W) :
    Blk W w.heap.size 3 #[v0] ∧ Blk W (w.heap.size + 1) 3 #[v1] ∧ Blk W (w.heap.size + 2) 4 #[v2] ∧ Blk W (w.heap.size + 3) 226 cs ∧ Below w.heap.size w W := by
  obtain ⟨W1, hW1⟩ : ∃ W1, w.alloc (.cells #[v0] 3) = W1 := ⟨_, rfl⟩
  rw [hW1] at hW
  obtain ⟨W2, hW2⟩ : ∃ W2, W1.alloc (.cells #[v1] 3) = W2 := ⟨_, rfl⟩
  rw [hW2] at hW
  obtain ⟨W3, hW3⟩ : ∃ W3, W2.alloc (.cells #[v2] 4) = W3 := ⟨_, rfl⟩
  rw [hW3] at hW
  have s1 := size_allocEq hW1
  have s2 := size_allocEq hW2
  have s3 := size_allocEq hW3
  have n1 := Blk.newEq hW2
  have n2 := Blk.newEq hW3
  have n3 := Blk.newEq hW
  rw [s1] at n1
  rw [s2, s1] at n2
  rw [s3, s2, s1] at n3
  exact ⟨(((Blk.newEq hW1).allocEq hW2).allocEq hW3).allocEq hW, (n1.allocEq hW3).allocEq hW, n2.allocEq hW, n3, below_allocEq (below_allocEq (below_allocEq (below_allocEq (Below.refl w.heap.size w) hW1 (Nat.le_refl _)) hW2 (by omega)) hW3 (by omega)) hW (by omega)⟩
set_option maxRecDepth 100000 in
theorem shape24_any (A : Option Addr) (c : Nat) (l : List Nod) (w : World) (h : NodS w (Old w) (.slice A l.length c) l) (hn : l.length ≤ 100000000) : Calls Tryz.prog 167 #[.slice A l.length c] w (ShapOut w (shapeR l)) := by
  have hmf : ∀ (fn : Fn) (first cap : Array Value) (w : World), (Instr.makeFunc fn first cap).run Tryz.prog w = .ok (.func fn first cap) w := fun _ _ _ _ => rfl
  obtain ⟨W0, hW0⟩ : ∃ W0, (((w.alloc (.cells #[.int .i64 0] 3)).alloc (.cells #[.int .i64 0] 3)).alloc (.cells #[.bool false] 4)).alloc (.cells #[.slice A l.length c] 226) = W0 := ⟨_, rfl⟩
  obtain ⟨k0, k1, k2, k3, hB⟩ := four24 hW0
  have hR : RdW W0 (w.heap.size + 3) l := ⟨A, c, k3, h.keep (Agree.below hB fun b hb => hb) fun b hb => by show b < w.heap.size + 3; have : b < w.heap.size := hb; omega⟩
  have hs := hide (shape24 (w.heap.size + 3) l.length l W0 hR hn (Nat.le_refl _))
  have hN := hide (shapeR_none (l := l))
  have hM := hide (fun t n r => shapeR_more (l := l) (t := t) (n := n) (r := r))
  have hS := hide (fun t => shapeR_some (l := l) (t := t))
  obtain ⟨P, hP⟩ : ∃ P, ShapOut w (shapeR l) = P := ⟨_, rfl⟩
  rw [hP]
  replace hP := hide hP
  clear h hR k3
  go_enter_defers Tryz.func167, Tryz.ntmps167
  have k2' : Blk W0 (w.heap.size + 1 + 1) 4 #[.bool false] := k2
  have hs' : Hid (Calls Tryz.prog 206 #[.pointer (some ⟨w.heap.size + 1 + 1 + 1, 0, none⟩)] W0 (ShapeOut (w.heap.size + 1 + 1 + 1) l.length l W0)) := hs
  clear hs k2
  go_wp2_with fail
  refine hs'.out.mono ?_
  rintro e w1 ⟨s1, s2, hT⟩
  have j0 := hT.blk k0 (by decide)
  have j1 := hT.blk k1 (by decide)
  have j2 := hT.blk k2' (by decide)
  have hB1 : Below w.heap.size w w1 := hB.trans (hT.below.mono (by omega))
  clear hs' k0 k1 k2' hB hT hW0
  cases hq : parseT l.length l with
  | none =>
    obtain rfl := s1 hq
    have e1 := hide (hN.out hq)
    clear s1 s2 hM hS hq
    go_wp2
    refine leaves24_bad j0 j1 j2 rfl rfl rfl fun w' hb' => ?_
    rw [← hP.out]
    exact ⟨by rw [e1.out], hB1.trans hb'⟩
  | some tr =>
    obtain ⟨t, r⟩ := tr
    obtain ⟨rfl, hR1⟩ := s2 t r hq
    have d0 := Blk.n0 j0
    have d1 := Blk.n0 j1
    have d2 := Blk.n0 j2
    have f0 := j0.frozen 0
    have f1 := j1.frozen 0
    have f2 := j2.frozen 0
    obtain ⟨W2, hW2⟩ : ∃ W2, (w1.setCell ⟨w.heap.size, 0, none⟩ (.int .i64 (t.leaves : Int))).setCell ⟨w.heap.size + 1, 0, none⟩ (.int .i64 (t.deep : Int)) = W2 := ⟨_, rfl⟩
    have hTy : TyW w.heap.size [3] w1 W2 := by
      rw [← hW2]
      exact (TyW.put j0 (Nat.le_refl _) (by simp) _).trans (TyW.put (j1.far (p := ⟨w.heap.size, 0, none⟩) (by simp) _) (by omega) (by simp) _)
    have i0 : Blk W2 w.heap.size 3 #[.int .i64 (t.leaves : Int)] := by
      rw [← hW2]
      exact (j0.set_ 0 _).far (p := ⟨w.heap.size + 1, 0, none⟩) (by simp) _
    have i1 : Blk W2 (w.heap.size + 1) 3 #[.int .i64 (t.deep : Int)] := by
      rw [← hW2]
      exact (j1.far (p := ⟨w.heap.size, 0, none⟩) (by simp) _).set_ 0 _
    have i2 : Blk W2 (w.heap.size + 1 + 1) 4 #[.bool false] := hTy.blk j2 (by decide)
    have hB2 := hB1.trans hTy.below
    obtain ⟨A', c', kr, -⟩ := hR1
    have kr2 := hTy.blk kr (by decide)
    clear s1 s2 hN kr hTy j0 j1 j2
    cases r with
    | nil =>
      have e1 := hide (hS.out t hq)
      have he := hide (end24_ok (w.heap.size + 1 + 1 + 1) A' c' W2 kr2)
      clear hM hS hq kr2
      go_wp2_with fail
      refine he.out.mono ?_
      rintro e w' ⟨rfl, rfl⟩
      clear he hW2 d0 d1 d2 f0 f1 f2
      have d0 := Blk.n0 i0
      have d1 := Blk.n0 i1
      have d2 := Blk.n0 i2
      have f0 := i0.frozen 0
      have f1 := i1.frozen 0
      have f2 := i2.frozen 0
      go_wp2_with fail
      go_region
      have q0 := (((i0.set_ 0 (.int .i64 (t.leaves : Int))).far (p := ⟨w.heap.size + 1, 0, none⟩) (by simp) (.int .i64 (t.deep : Int))).far (p := ⟨w.heap.size + 1 + 1, 0, none⟩) (by show w.heap.size ≠ w.heap.size + 1 + 1; omega) (.bool true)).drew
      have q1 := (((i1.far (p := ⟨w.heap.size, 0, none⟩) (by simp) (.int .i64 (t.leaves : Int))).set_ 0 (.int .i64 (t.deep : Int))).far (p := ⟨w.heap.size + 1 + 1, 0, none⟩) (by simp) (.bool true)).drew
      have q2 := (((i2.far (p := ⟨w.heap.size, 0, none⟩) (by show w.heap.size + 1 + 1 ≠ w.heap.size; omega) (.int .i64 (t.leaves : Int))).far (p := ⟨w.heap.size + 1, 0, none⟩) (by simp) (.int .i64 (t.deep : Int))).set_ 0 (.bool true)).drew
      have hB3 := (((hB2.setCell (p := ⟨w.heap.size, 0, none⟩) (by simp) (.int .i64 (t.leaves : Int))).setCell (p := ⟨w.heap.size + 1, 0, none⟩) (by simp) (.int .i64 (t.deep : Int))).setCell (p := ⟨w.heap.size + 1 + 1, 0, none⟩) (by show w.heap.size ≤ w.heap.size + 1 + 1; omega) (.bool true)).drew
      generalize (((W2.setCell ⟨w.heap.size, 0, none⟩ (.int .i64 (t.leaves : Int))).setCell ⟨w.heap.size + 1, 0, none⟩ (.int .i64 (t.deep : Int))).setCell ⟨w.heap.size + 1 + 1, 0, none⟩ (.bool true)).drew = W5 at *
      go_wp2
      refine leaves24_good q0 q1 q2 rfl rfl rfl fun w' hb' => ?_
      rw [← hP.out]
      exact ⟨by rw [e1.out], hB3.trans (hb'.mono hB3.size)⟩
    | cons x r =>
      have e1 := hide (hM.out t x r hq)
      have he := hide (end24_no (w.heap.size + 1 + 1 + 1) A' r.length c' W2 kr2)
      clear hM hS hq kr2
      go_wp2_with fail
      refine he.out.mono ?_
      rintro e w' ⟨rfl, rfl⟩
      go_wp2
      refine leaves24_bad i0 i1 i2 rfl rfl rfl fun w' hb' => ?_
      rw [← hP.out]
      exact ⟨by rw [e1.out], hB2.trans hb'⟩
end Go.Proofs.YtjomijnbnbideaaGreatDoor

namespace Go.Proofs.YtjomijnbnbideaaGreatDoor
open Go.RowKit Go.Inq
set_option maxHeartbeats 8000000
attribute [local go_sem ↓] Go.wp_at_zero Go.wp_at_succ

set_option maxRecDepth 100000 in
theorem cc24_any (A : Option Addr) (c : Nat) (H : List Txn) (t key : Int) (bh bc : Nat) (w : World) (h : TxnS w (Old w) (.slice A H.length c) H) (hn : SmallH H) (hbh : w.cell? ⟨bh, 0, none⟩ = some (.slice A H.length c)) (hbc : w.cell? ⟨bc, 0, none⟩ = some (.int .i64 key)) :
    Calls Tryz.prog 237 #[.int .i64 t, .pointer (some ⟨bh, 0, none⟩), .pointer (some ⟨bc, 0, none⟩)] w fun e w' => e = .returned (.bool (wrB H t key)) ∧ Below w.heap.size w w' := by
  have hlen := hn.1
  have hbh2 := hide (fun W (hW : Below w.heap.size w W) => (hW.cell (p := ⟨bh, 0, none⟩) (block_lt_of_cell hbh)).trans hbh)
  have hbc2 := hide (fun W (hW : Below w.heap.size w W) => (hW.cell (p := ⟨bc, 0, none⟩) (block_lt_of_cell hbc)).trans hbc)
  clear hbh hbc
  by_cases h0 : 0 ≤ t
  · have h0b : decide (t ≥ 0) = true := by simpa using h0
    by_cases h1 : t < (H.length : Int)
    · obtain ⟨m, rfl⟩ : ∃ m : Nat, t = m := ⟨t.toNat, by omega⟩
      have hm : m < H.length := by omega
      have hr := wrB_nat (key := key) hm
      rw [txnAt_of hm] at hr
      obtain ⟨b, off, Aw, cw, Ar, cr, rfl, hbK, d0, d1, d2, hws, _⟩ := TxnS.at_ h hm
      have hd1 := hide (fun W (hW : Below w.heap.size w W) => (hW.cell (p := ⟨b, off + m * 3 + 1, none⟩) hbK).trans d1)
      have hwl : H[m].writes.length ≤ maxLen := by have := (hn.2 _ (List.getElem_mem hm)).1; unfold maxLen; omega
      have hcc := hide (fun W (hW : Below w.heap.size w W) => contains_int Aw cw H[m].writes key (Old W) W (IntS.below hws hW) hwl)
      generalize H[m].writes = L at *
      generalize hqe : L.contains key = q at *
      rw [hr]
      have hm1 : decide (m < H.length) = true := by simpa using hm
      have hm2 : (0 : Int) ≤ (m : Int) := Int.natCast_nonneg _
      replace hn := hide hn
      clear h h0 hws d0 d1 d2 hr hqe
      go_enter Tryz.func237, Tryz.ntmps237
      go_upto_region 1 with fail
      refine wp_region_float (fun W => Below w.heap.size w W) (by kernel_rfl) (by kernel_rfl) (Below.refl _ _).drew ?_
      refine ⟨.int .i64 (m : Int), fun W hW => (by go_wp2), ?_⟩
      refine ⟨.bool true, fun W hW => (by go_wp2), ?_⟩
      refine ⟨.bool true, fun W hW => (by go_wp2), ?_⟩
      refine ⟨.int .i64 (m : Int), fun W hW => (by go_wp2), ?_⟩
      refine ⟨.pointer (some ⟨bh, 0, none⟩), fun W hW => (by go_wp2), ?_⟩
      refine ⟨.slice (some ⟨b, off, none⟩) H.length c, fun W hW => (by have v0 := hbh2.out W hW; go_wp2), ?_⟩
      refine ⟨.int .i64 (H.length : Int), fun W hW => (by go_wp2), ?_⟩
      refine ⟨.bool true, fun W hW => (by go_wp2), ?_⟩
      refine ⟨.bool true, fun W hW => (by go_wp2), ?_⟩
      refine ⟨.bool true, fun W hW => (by go_wp2), ?_⟩
      refine ⟨.pointer (some ⟨bh, 0, none⟩), fun W hW => (by go_wp2), ?_⟩
      refine ⟨.slice (some ⟨b, off, none⟩) H.length c, fun W hW => (by have v0 := hbh2.out W hW; go_wp2), ?_⟩
      refine ⟨.int .i64 (m : Int), fun W hW => (by go_wp2), ?_⟩
      refine ⟨.pointer (some ⟨b, off + m * 3, none⟩), fun W hW => (by go_wp2), ?_⟩
      refine ⟨.pointer (some ⟨b, off + m * 3 + 1, none⟩), fun W hW => (by go_wp2), ?_⟩
      refine ⟨.slice Aw L.length cw, fun W hW => (by have v0 := hd1.out W hW; go_wp2), ?_⟩
      refine ⟨.pointer (some ⟨bc, 0, none⟩), fun W hW => (by go_wp2), ?_⟩
      refine ⟨.int .i64 key, fun W hW => (by have v0 := hbc2.out W hW; go_wp2), ?_⟩
      refine ⟨.bool q, fun W hW => (by
        go_wp2_with fail
        refine (hcc.out W hW).mono ?_
        rintro e w' ⟨rfl, rfl⟩
        go_wp2), ?_⟩
      refine ⟨.bool q, fun W hW => (by go_wp2), ?_⟩
      refine ⟨.bool q, fun W hW => (by go_wp2), ?_⟩
      intro W5 hW5
      simp only [Act.put, sA, sZ, sS]
      go_wp2
      go_ret
      exact ⟨rfl, hW5⟩
    · have hr : wrB H t key = false := by unfold wrB; simp; intro _ e; exact absurd e h1
      have h1b : decide (t < (H.length : Int)) = false := by simpa using h1
      rw [hr]
      replace hn := hide hn
      clear h h0 h1 hr
      go_enter Tryz.func237, Tryz.ntmps237
      go_upto_region 1 with fail
      refine wp_region_float (fun W => Below w.heap.size w W) (by kernel_rfl) (by kernel_rfl) (Below.refl _ _).drew ?_
      refine ⟨.int .i64 t, fun W hW => (by go_wp2), ?_⟩
      refine ⟨.bool true, fun W hW => (by go_wp2), ?_⟩
      refine ⟨.bool true, fun W hW => (by go_wp2), ?_⟩
      refine ⟨.int .i64 t, fun W hW => (by go_wp2), ?_⟩
      refine ⟨.pointer (some ⟨bh, 0, none⟩), fun W hW => (by go_wp2), ?_⟩
      refine ⟨.slice A H.length c, fun W hW => (by have v0 := hbh2.out W hW; go_wp2), ?_⟩
      refine ⟨.int .i64 (H.length : Int), fun W hW => (by go_wp2), ?_⟩
      refine ⟨.bool false, fun W hW => (by go_wp2), ?_⟩
      refine ⟨.bool false, fun W hW => (by go_wp2), ?_⟩
      refine ⟨.bool false, fun W hW => (by go_wp2), ?_⟩
      refine ⟨undef, fun W hW => (by go_wp2), ?_⟩
      refine ⟨undef, fun W hW => (by go_wp2), ?_⟩
      refine ⟨undef, fun W hW => (by go_wp2), ?_⟩
      refine ⟨undef, fun W hW => (by go_wp2), ?_⟩
      refine ⟨undef, fun W hW => (by go_wp2), ?_⟩
      refine ⟨undef, fun W hW => (by go_wp2), ?_⟩
      refine ⟨undef, fun W hW => (by go_wp2), ?_⟩
      refine ⟨undef, fun W hW => (by go_wp2), ?_⟩
      refine ⟨undef, fun W hW => (by go_wp2), ?_⟩
      refine ⟨.bool false, fun W hW => (by go_wp2), ?_⟩
      refine ⟨.bool false, fun W hW => (by go_wp2), ?_⟩
      intro W5 hW5
      simp only [Act.put, sA, sZ, sS]
      go_wp2
      go_ret
      exact ⟨rfl, hW5⟩
  · have hr : wrB H t key = false := by unfold wrB; simp; intro e; exact absurd e h0
    have h0b : decide (t ≥ 0) = false := by simpa using h0
    rw [hr]
    replace hn := hide hn
    clear h h0 hr
    go_enter Tryz.func237, Tryz.ntmps237
    go_upto_region 1 with fail
    refine wp_region_float (fun W => Below w.heap.size w W) (by kernel_rfl) (by kernel_rfl) (Below.refl _ _).drew ?_
    refine ⟨.int .i64 t, fun W hW => (by go_wp2), ?_⟩
    refine ⟨.bool false, fun W hW => (by go_wp2), ?_⟩
    refine ⟨.bool false, fun W hW => (by go_wp2), ?_⟩
    refine ⟨undef, fun W hW => (by go_wp2), ?_⟩
    refine ⟨undef, fun W hW => (by go_wp2), ?_⟩
    refine ⟨undef, fun W hW => (by go_wp2), ?_⟩
    refine ⟨undef, fun W hW => (by go_wp2), ?_⟩
    refine ⟨undef, fun W hW => (by go_wp2), ?_⟩
    refine ⟨.bool false, fun W hW => (by go_wp2), ?_⟩
    refine ⟨.bool false, fun W hW => (by go_wp2), ?_⟩
    refine ⟨undef, fun W hW => (by go_wp2), ?_⟩
    refine ⟨undef, fun W hW => (by go_wp2), ?_⟩
    refine ⟨undef, fun W hW => (by go_wp2), ?_⟩
    refine ⟨undef, fun W hW => (by go_wp2), ?_⟩
    refine ⟨undef, fun W hW => (by go_wp2), ?_⟩
    refine ⟨undef, fun W hW => (by go_wp2), ?_⟩
    refine ⟨undef, fun W hW => (by go_wp2), ?_⟩
    refine ⟨undef, fun W hW => (by go_wp2), ?_⟩
    refine ⟨undef, fun W hW => (by go_wp2), ?_⟩
    refine ⟨.bool false, fun W hW => (by go_wp2), ?_⟩
    refine ⟨.bool false, fun W hW => (by go_wp2), ?_⟩
    intro W5 hW5
    simp only [Act.put, sA, sZ, sS]
    go_wp2
    go_ret
    exact ⟨rfl, hW5⟩
set_option maxRecDepth 100000 in
theorem choice24_any (A : Option Addr) (c : Nat) (H : List Txn) (key a b : Int) (w : World) (h : TxnS w (Old w) (.slice A H.length c) H) (hn : SmallH H) :
    Calls Tryz.prog 210 #[.agg #[.slice A H.length c], .agg #[.int .i64 key, .int .i64 a, .int .i64 b]] w fun e w' => e = .returned (.bool (oneB H ⟨key, a, b⟩)) ∧ Below w.heap.size w w' := by
  obtain ⟨W0, hW0⟩ : ∃ W0, (w.alloc (.cells #[.slice A H.length c] 24)).alloc (.cells #[.int .i64 key, .int .i64 a, .int .i64 b] 49) = W0 := ⟨_, rfl⟩
  have hB := below_two hW0
  have k0 := Blk.two1 hW0
  have k1 := Blk.two2 hW0
  have hT := hide (h.below hB)
  have hcl := hide (fun (t : Int) W (hW : Below W0.heap.size W0 W) => cc24_any A c H t key w.heap.size (w.heap.size + 1) W (hT.out.below hW) hn (by have := (k0.below hW k0.lt).cell 0; simpa using this) (by have := (k1.below hW k1.lt).cell 0; simpa using this))
  have c0 := Blk.n0 k1
  have c1 := Blk.n1 k1
  have c2 := Blk.n2 k1
  have hone : Hid (oneB H ⟨key, a, b⟩ = (decide (a ≠ b) && wrB H a key && wrB H b key)) := hide rfl
  obtain ⟨r, hr⟩ : ∃ r, oneB H ⟨key, a, b⟩ = r := ⟨_, rfl⟩
  rw [hr] at hone
  rw [hr]
  clear h hr
  by_cases hab : a = b
  · have g1 : (a != b) = false := by simp [hab]
    have hre : r = false := by rw [hone.out]; simp [hab]
    subst hre
    clear hab hone hcl
    go_enter Tryz.func210, Tryz.ntmps210
    go_wp2
    go_ret
    exact ⟨rfl, hB⟩
  · have g1 : (a != b) = true := by simpa using hab
    have hone2 := hide (show r = (wrB H a key && wrB H b key) by rw [hone.out]; simp [hab])
    have h1 := hide (hcl.out a W0 (Below.refl _ _))
    have h2 := hide (fun W hW => hcl.out b W hW)
    generalize wrB H a key = q1 at *
    generalize wrB H b key = q2 at *
    clear hab hone hcl
    go_enter Tryz.func210, Tryz.ntmps210
    go_wp2_with fail
    refine h1.out.mono ?_
    rintro e w1 ⟨rfl, hb1⟩
    have d2 := (hb1.cell (p := ⟨w.heap.size + 1, 2, none⟩) k1.lt).trans c2
    have hb2 := hB.trans (hb1.mono hB.size)
    have h3 := hide (h2.out w1 hb1)
    clear hW0 h1 h2 c0 c1 c2
    cases q1 with
    | false =>
      have hre : r = false := by rw [hone2.out]; rfl
      subst hre
      clear h3 hone2
      go_wp2
      go_ret
      exact ⟨rfl, hb2⟩
    | true =>
      have hre : r = q2 := by rw [hone2.out]; rfl
      subst hre
      clear hone2
      go_wp2_with fail
      refine h3.out.mono ?_
      rintro e w2 ⟨rfl, hb3⟩
      go_wp2
      go_ret
      exact ⟨rfl, hb2.trans (hb3.mono hb2.size)⟩
theorem back24_any (k a b : Int) (w : World) : Calls Tryz.prog 209 #[.agg #[.int .i64 k, .int .i64 a, .int .i64 b]] w fun e w' => e = .returned (.agg #[.int .i64 k, .int .i64 b, .int .i64 a]) ∧ Below w.heap.size w w' := by
  obtain ⟨W0, hW0⟩ : ∃ W0, (w.alloc (.cells #[.int .i64 k, .int .i64 a, .int .i64 b] 49)).alloc (.cells #[.int .i64 0, .int .i64 0, .int .i64 0] 49) = W0 := ⟨_, rfl⟩
  have hb := below_two hW0
  have k1 := Blk.two1 hW0
  have k2 := Blk.two2 hW0
  have a0 := Blk.n0 k1
  have a1 := Blk.n1 k1
  have a2 := Blk.n2 k1
  have b0 := Blk.n0 k2
  have b1 := Blk.n1 k2
  have b2 := Blk.n2 k2
  have f0 := k2.frozen 0
  have f1 := k2.frozen 1
  have f2 := k2.frozen 2
  have hz := hide (((hb.setCell (p := ⟨w.heap.size + 1, 0, none⟩) (by simp) (.int .i64 k)).setCell (p := ⟨w.heap.size + 1, 1, none⟩) (by simp) (.int .i64 b)).setCell (p := ⟨w.heap.size + 1, 2, none⟩) (by simp) (.int .i64 a))
  have hq := ((k2.set_ 0 (.int .i64 k)).set_ 1 (.int .i64 b)).set_ 2 (.int .i64 a)
  simp only [sA, sZ, sS] at hq
  have y0 := Blk.n0 hq
  have y1 := Blk.n1 hq
  have y2 := Blk.n2 hq
  clear hq
  go_enter Tryz.func209, Tryz.ntmps209
  go_wp2_with fail
  exact bodyPost_ret (v := .agg #[.int .i64 k, .int .i64 b, .int .i64 a]) (by simp [results, Tryz.results209, go_sem, y0, y1, y2]) rfl ⟨rfl, hz.out⟩
theorem turned31_any (k a b : Int) (w : World) : Calls Tryz.prog 108 #[.agg #[.int .i64 k, .int .i64 a, .int .i64 b]] w fun e w' => e = .returned (.agg #[.int .i64 k, .int .i64 b, .int .i64 a]) ∧ Below w.heap.size w w' := by
  obtain ⟨W0, hW0⟩ : ∃ W0, (w.alloc (.cells #[.int .i64 k, .int .i64 a, .int .i64 b] 49)).alloc (.cells #[.int .i64 0, .int .i64 0, .int .i64 0] 49) = W0 := ⟨_, rfl⟩
  have hb := below_two hW0
  have k1 := Blk.two1 hW0
  have k2 := Blk.two2 hW0
  have a0 := Blk.n0 k1
  have a1 := Blk.n1 k1
  have a2 := Blk.n2 k1
  have b0 := Blk.n0 k2
  have b1 := Blk.n1 k2
  have b2 := Blk.n2 k2
  have f0 := k2.frozen 0
  have f1 := k2.frozen 1
  have f2 := k2.frozen 2
  have hz := hide (((hb.setCell (p := ⟨w.heap.size + 1, 0, none⟩) (by simp) (.int .i64 k)).setCell (p := ⟨w.heap.size + 1, 1, none⟩) (by simp) (.int .i64 b)).setCell (p := ⟨w.heap.size + 1, 2, none⟩) (by simp) (.int .i64 a))
  have hq := ((k2.set_ 0 (.int .i64 k)).set_ 1 (.int .i64 b)).set_ 2 (.int .i64 a)
  simp only [sA, sZ, sS] at hq
  have y0 := Blk.n0 hq
  have y1 := Blk.n1 hq
  have y2 := Blk.n2 hq
  clear hq
  go_enter Tryz.func108, Tryz.ntmps108
  go_wp2_with fail
  exact bodyPost_ret (v := .agg #[.int .i64 k, .int .i64 b, .int .i64 a]) (by simp [results, Tryz.results108, go_sem, y0, y1, y2]) rfl ⟨rfl, hz.out⟩
end Go.Proofs.YtjomijnbnbideaaGreatDoor

namespace Go.Proofs.YtjomijnbnbideaaGreatDoor
open Go.RowKit Go.Inq
set_option maxHeartbeats 2000000
attribute [local go_sem ↓] Go.wp_at_zero Go.wp_at_succ

theorem clipCh_any (A : Option Addr) (n c : Nat) (w : World) (h : n ≤ c) : Calls Tryz.prog 106 #[.slice A n c] w fun e w' => e = .returned (.slice A n n) ∧ w = w' := by
  have h1 : (n : Int) ≤ (c : Int) := by omega
  have h0 : (0 : Int) ≤ (n : Int) := Int.natCast_nonneg _
  go_enter Tryz.func106, Tryz.ntmps106
  go_wp2
  go_ret
  exact ⟨rfl, rfl⟩
theorem slR_cells {α : Type} {size : Nat} {enc : α → List Value} {w : World} {K : Nat → Prop} {ad : Addr} {n c : Nat} {l : List α} (h : SlR size (Flat enc) w K (.slice (some ad) n c) l) (hs : ∀ x, (enc x).length = size) : ∀ (j : Nat) (u : Value), (l.map enc).flatten[j]? = some u → w.cell? (ad.add j) = some u := by
  intro j u hj
  obtain ⟨i, k, cs, rfl, h1, h2⟩ := flatten_at (size := size) (l.map enc) j u (fun i cs e => by
    rw [List.getElem?_map] at e
    obtain ⟨x, -, rfl⟩ := Option.map_eq_some_iff.1 e
    exact hs x) hj
  rw [List.getElem?_map] at h1
  obtain ⟨x, hx, rfl⟩ := Option.map_eq_some_iff.1 h1
  obtain ⟨hi, rfl⟩ := List.getElem?_eq_some_iff.1 hx
  obtain ⟨b, off, cs', e, -, -, hR, hc⟩ := h.at_ hi
  injection e with e
  subst e
  unfold Flat at hR
  subst hR
  have := hc k u h2
  rw [show (⟨b, off, none⟩ : Addr).add (i * size + k) = ⟨b, off + i * size + k, none⟩ by unfold Addr.add; split <;> simp_all <;> omega]
  exact this
theorem wpList_append_full {P : Program} {w : World} {ops : Array Oper} {rest : List Oper} {o : Oper} {a : Act} {Q : Exit → Act → World → Prop} {α : Type} {enc : α → List Value}
    (hgd : o.guard = none) (s x : Operand) (t : TypeId) (ho : o.op = .call { callee := .builtin .append, args := #[s, x], argTypes := #[t, t] })
    (e : TypeId) (i : TypeInfo) (z : Value) (size bytes : Nat) (ht : P.underlying t = some (.slice e)) (hi : P.info? e = some i) (hz : i.zero = some z)
    (hsize : i.size = size) (hby : i.bytes = bytes) (hzs : z.cells.size = size) (hsz : 0 < size)
    (ao : Option Addr) (K : Nat → Prop) (l : List α) (hs : a.eval s = .slice ao l.length l.length) (hl : SlR size (Flat enc) w K (.slice ao l.length l.length) l) (hen : ∀ x, (enc x).length = size)
    (g : Nat) (cs : Array Value) (x0 : α) (kg : Blk w g e cs) (hcs : cs.toList = enc x0) (hx : a.eval x = .slice (some ⟨g, 0, none⟩) 1 1)
    (h1 : ∀ x, ∀ u ∈ enc x, u.oneCell' = true) (h63 : l.length + 1 ≤ maxLen) (hbytes : (l.length + 1) * bytes ≤ 140737488355328)
    (h : ∀ v' w', w'.ownsRow w.heap.size e size v' (l ++ [x0]).length ((l ++ [x0]).map enc).flatten → Below w.heap.size w w' → wpList P ops Q rest (a.put o.dst v') w') :
    wpList P ops Q (o :: rest) a w := by
  refine wpList_append_grows w hgd s x t ho e i z size bytes ht hi hz hsize hby hzs hsz ao l.length l.length (l.map enc).flatten hs (fun e => ?_) ?_ (fun b e => ?_) ⟨g, 0, none⟩ 1 1 (enc x0) hx (by rw [hen]; omega) (fun j u hj => ?_) (h1 x0) (by omega) h63 hbytes ?_
  · rcases Nat.eq_zero_or_pos l.length with h0 | h0
    · exact ⟨h0, h0⟩
    · obtain ⟨b, off, cs', e', -⟩ := hl.at_ h0
      rw [e] at e'; cases e'
  · clear h hs hl h63 hbytes
    induction l with
    | nil => simp
    | cons y l ih => rw [List.map_cons, List.flatten_cons, List.length_append, hen, ih, List.length_cons, Nat.add_mul]; omega
  · subst e
    exact slR_cells hl hen
  · have := kg.cell j
    rw [show (⟨g, 0, none⟩ : Addr).add j = ⟨g, j, none⟩ by unfold Addr.add; split <;> simp_all, this]
    rw [← hcs] at hj
    simpa using hj
  · intro v' w' g1 g2
    refine h v' w' ?_ ((Below.refl _ _).grown g2 (Nat.le_refl _) (by simp))
    rw [List.map_append, List.flatten_append, List.length_append]
    simpa using g1
end Go.Proofs.YtjomijnbnbideaaGreatDoor

namespace Go.Inq
open Go Go.RowKit
def Cho.keyV (x : Cho) : Value := .agg #[.int .i64 x.key, .int .i64 x.a, .int .i64 x.b]
structure ChoKey (P : Program) (k : TypeId) : Prop where
  kind : ∃ fs, P.underlying k = some (.struct fs)
  check : ∀ (e : Bool) (x : Cho) (w : World), (Instr.checkKey e 10000 k x.keyV).run P w = .ok () w
  eq : ∀ (x y : Cho) (w : World), (Op.equal k x.keyV y.keyV).run P w = .ok (decide (x = y)) w
section
variable {P : Program} {k : TypeId} {α : Type} {enc : α → Value} {w : World} {g : Nat}

def atKeyC (x : Cho) : List (Cho × α) → Option (Nat × α)
  | [] => none
  | (y, v) :: r => if x = y then some (0, v) else (atKeyC x r).map fun p => (p.1 + 1, p.2)
def ReadsC (enc : α → Value) : List MapEntry → List (Cho × α) → Prop
  | [], [] => True
  | e :: es, (y, v) :: r => e.key = y.keyV ∧ e.val = enc v ∧ ReadsC enc es r
  | _, _ => False
theorem find_askingC (K : ChoKey P k) (x : Cho) (w : World) : ∀ (es : List MapEntry) (l : List (Cho × α)) (i : Nat), ReadsC enc es l →
    (Instr.findAsking k x.keyV es i).run P w = .ok ((atKeyC x l).map fun p => (i + p.1, enc p.2)) w
  | [], [], i, _ => by simp [Instr.findAsking, atKeyC]
  | e :: es, (y, v) :: r, i, h => by
    obtain ⟨h1, h2, h3⟩ := h
    unfold Instr.findAsking
    simp only [Sem.run_bind, h1, K.eq, Result.andThen_ok, atKeyC]
    by_cases hx : x = y
    · simp [hx, h2]
    · simp only [hx, decide_false, Bool.false_eq_true, if_false]
      rw [find_askingC K x w es r (i + 1) h3]
      congr 1
      cases atKeyC x r with
      | none => rfl
      | some p => simp; omega
theorem find_keyC (K : ChoKey P k) (x : Cho) (w : World) (es : List MapEntry) (l : List (Cho × α)) (h : ReadsC enc es l) : (Instr.findKey k x.keyV es).run P w = .ok ((atKeyC x l).map fun p => (p.1, enc p.2)) w := by
  obtain ⟨fs, hk⟩ := K.kind
  unfold Instr.findKey
  simp only [Sem.run_bind, run_underlying hk, Result.andThen_ok]
  cases es with
  | nil =>
    cases l with
    | nil => simp [Instr.findNow, atKeyC]
    | cons a r => exact h.elim
  | cons e es =>
    have : Instr.findNow (.struct fs) x.keyV (e :: es) 0 = none := by simp [Instr.findNow, Instr.sameNow]
    rw [this]
    have := find_askingC K x w (e :: es) l 0 h
    simpa using this

def putC (x : Cho) (v : α) : List (Cho × α) → List (Cho × α)
  | [] => [(x, v)]
  | (y, u) :: r => if x = y then (x, v) :: r else (y, u) :: putC x v r
theorem atKeyC_put (x : Cho) (v : α) (y : Cho) : ∀ l : List (Cho × α), (atKeyC y (putC x v l)).map (·.2) = if y = x then some v else (atKeyC y l).map (·.2)
  | [] => by
    by_cases h : y = x <;> simp [putC, atKeyC, h]
  | (z, u) :: r => by
    have ih := atKeyC_put x v y r
    unfold putC
    by_cases hz : x = z
    · subst hz
      rw [if_pos rfl]
      by_cases hy : y = x
      · simp [atKeyC, hy]
      · simp [atKeyC, hy]
    · rw [if_neg hz]
      by_cases hy : y = z
      · subst hy
        simp [atKeyC, Ne.symm hz]
      · simp only [atKeyC, if_neg hy, Option.map_map]
        have e : ((fun p : Nat × α => p.2) ∘ fun p : Nat × α => (p.1 + 1, p.2)) = fun p => p.2 := rfl
        rw [e]
        exact ih
theorem atKeyC_some {x : Cho} : ∀ {l : List (Cho × α)} {i : Nat} {u : α} {es : List MapEntry}, atKeyC x l = some (i, u) → ReadsC enc es l → (es[i]?).map (·.key) = some x.keyV
  | [], _, _, _, h, _ => by simp [atKeyC] at h
  | (y, w) :: r, i, u, [], _, h => h.elim
  | (y, w) :: r, i, u, e :: es, h, hr => by
    obtain ⟨h1, h2, h3⟩ := hr
    unfold atKeyC at h
    by_cases hx : x = y
    · rw [if_pos hx] at h
      injection h with h
      injection h with h4 h5
      subst h4 hx
      simp [h1]
    · rw [if_neg hx] at h
      cases ha : atKeyC x r with
      | none => rw [ha] at h; simp at h
      | some p =>
        rw [ha] at h
        simp at h
        obtain ⟨rfl, rfl⟩ := h
        have := atKeyC_some (i := p.1) (u := p.2) ha h3
        simpa using this
theorem readsC_modify {x : Cho} {v : α} : ∀ {l : List (Cho × α)} {i : Nat} {u : α} {es : List MapEntry}, atKeyC x l = some (i, u) → ReadsC enc es l →
    ReadsC enc (es.modify i fun e => { e with key := x.keyV, val := enc v }) (putC x v l)
  | [], _, _, _, h, _ => by simp [atKeyC] at h
  | (y, w) :: r, i, u, [], _, h => h.elim
  | (y, w) :: r, i, u, e :: es, h, hr => by
    obtain ⟨h1, h2, h3⟩ := hr
    unfold atKeyC at h
    unfold putC
    by_cases hx : x = y
    · rw [if_pos hx] at h ⊢
      injection h with h
      injection h with h4 h5
      subst h4
      rw [List.modify_zero_cons]
      exact ⟨rfl, rfl, h3⟩
    · rw [if_neg hx] at h ⊢
      cases ha : atKeyC x r with
      | none => rw [ha] at h; simp at h
      | some p =>
        rw [ha] at h
        simp at h
        obtain ⟨rfl, rfl⟩ := h
        rw [List.modify_succ_cons]
        exact ⟨h1, h2, readsC_modify (i := p.1) (u := p.2) ha h3⟩
theorem readsC_push {x : Cho} {v : α} {c : Nat} : ∀ {l : List (Cho × α)} {es : List MapEntry}, atKeyC x l = none → ReadsC enc es l → ReadsC enc (es ++ [⟨x.keyV, enc v, c⟩]) (putC x v l)
  | [], [], _, _ => ⟨rfl, rfl, trivial⟩
  | [], e :: es, _, h => h.elim
  | (y, w) :: r, [], _, h => h.elim
  | (y, w) :: r, e :: es, h, hr => by
    obtain ⟨h1, h2, h3⟩ := hr
    unfold atKeyC at h
    unfold putC
    by_cases hx : x = y
    · rw [if_pos hx] at h; cases h
    · rw [if_neg hx] at h ⊢
      exact ⟨h1, h2, readsC_push (by simpa using h) h3⟩

def valOrC (enc : α → Value) (z : Value) : Option α → Value
  | some v => enc v
  | none => z
def MapC (enc : α → Value) (w : World) (g : Nat) (B : Cho → Option α) : Prop :=
  ∃ es clock l, w.heap[g]? = some (.map es clock) ∧ ReadsC enc es.toList l ∧ ∀ x, (atKeyC x l).map (·.2) = B x
theorem MapC.lt {B : Cho → Option α} (h : MapC enc w g B) : g < w.heap.size := by
  obtain ⟨es, c, l, h1, _⟩ := h
  exact (Array.getElem?_eq_some_iff.1 h1).1
theorem MapC.new (w : World) : MapC enc (w.alloc (.map #[] 0)) w.heap.size (fun _ => none) := ⟨#[], 0, [], (MapKept.heap_alloc w _).1, trivial, fun _ => rfl⟩
theorem MapC.agree {w' : World} {B : Cho → Option α} (h : MapC enc w g B) (ha : w'.heap[g]? = w.heap[g]?) : MapC enc w' g B := by
  obtain ⟨es, c, l, h1, h2, h3⟩ := h
  exact ⟨es, c, l, ha.trans h1, h2, h3⟩
theorem MapC.below {w' : World} {n : Nat} {B : Cho → Option α} (h : MapC enc w g B) (hb : Below n w w') (hg : g < n) : MapC enc w' g B := h.agree (hb.block g hg)
theorem MapC.same {B B' : Cho → Option α} (h : MapC enc w g B) (hB : ∀ x, B x = B' x) : MapC enc w g B' := by
  obtain ⟨es, c, l, h1, h2, h3⟩ := h
  exact ⟨es, c, l, h1, h2, fun x => (h3 x).trans (hB x)⟩
theorem MapC.lookup (K : ChoKey P k) {t e : TypeId} {z : Value} (ht : P.underlying t = some (.map k e)) (hz : ∀ w, (zeroValue e).run P w = .ok z w) {B : Cho → Option α} (h : MapC enc w g B) (x : Cho) :
    (Instr.lookup t (.map (some g)) x.keyV true).run P w = .ok (.tuple #[valOrC enc z (B x), .bool (B x).isSome]) w := by
  obtain ⟨es, c, l, h1, h2, h3⟩ := h
  have hf := find_keyC K x w es.toList l h2
  have hB := h3 x
  unfold Instr.lookup
  simp only [Sem.run_bind, run_underlying ht, Result.andThen_ok, MapKept.run_getObj_map h1, Sem.run_pure, K.check, hf]
  cases ha : atKeyC x l with
  | none =>
    rw [ha] at hB
    rw [← hB]
    simp [hz, valOrC]
  | some p =>
    rw [ha] at hB
    rw [← hB]
    simp [valOrC]
theorem MapC.lookup1 (K : ChoKey P k) {t e : TypeId} {z : Value} (ht : P.underlying t = some (.map k e)) (hz : ∀ w, (zeroValue e).run P w = .ok z w) {B : Cho → Option α} (h : MapC enc w g B) (x : Cho) :
    (Instr.lookup t (.map (some g)) x.keyV false).run P w = .ok (valOrC enc z (B x)) w := by
  obtain ⟨es, c, l, h1, h2, h3⟩ := h
  have hf := find_keyC K x w es.toList l h2
  have hB := h3 x
  unfold Instr.lookup
  simp only [Sem.run_bind, run_underlying ht, Result.andThen_ok, MapKept.run_getObj_map h1, Sem.run_pure, K.check, hf]
  cases ha : atKeyC x l with
  | none =>
    rw [ha] at hB
    rw [← hB]
    simp [hz, valOrC]
  | some p =>
    rw [ha] at hB
    rw [← hB]
    simp [valOrC]
theorem MapC.update (K : ChoKey P k) {t e : TypeId} (ht : P.underlying t = some (.map k e)) {B : Cho → Option α} (h : MapC enc w g B) (x : Cho) (v : α) :
    ∃ es c, (Instr.mapUpdate t (.map (some g)) x.keyV (enc v)).run P w = .ok () (ChangeMaps.setBlock w g (.map es c)) ∧ MapC enc (ChangeMaps.setBlock w g (.map es c)) g (fun y => if y = x then some v else B y) := by
  have hg := h.lt
  obtain ⟨es, c, l, h1, h2, h3⟩ := h
  have hf := find_keyC K x w es.toList l h2
  have hs : Instr.sameBits 10000 x.keyV x.keyV = true := by simp [Cho.keyV, Instr.sameBits]
  cases ha : atKeyC x l with
  | none =>
    refine ⟨es.push ⟨x.keyV, enc v, c⟩, c + 1, ?_, ⟨es.push ⟨x.keyV, enc v, c⟩, c + 1, putC x v l, ?_, ?_, fun y => ?_⟩⟩
    · unfold Instr.mapUpdate
      simp only [Sem.run_bind, run_underlying ht, Result.andThen_ok, MapKept.run_getObj_map h1, K.check, hf, ha, Option.map_none]
      exact MapKept.run_setObj_map _ h1
    · unfold ChangeMaps.setBlock; simp [hg]
    · rw [Array.toList_push]; exact readsC_push ha h2
    · rw [atKeyC_put, h3]
  | some p =>
    obtain ⟨i, u⟩ := p
    have hk := atKeyC_some ha h2
    refine ⟨es.modify i fun e => { e with key := x.keyV, val := enc v }, c, ?_, ⟨es.modify i fun e => { e with key := x.keyV, val := enc v }, c, putC x v l, ?_, ?_, fun y => ?_⟩⟩
    · unfold Instr.mapUpdate
      simp only [Sem.run_bind, run_underlying ht, Result.andThen_ok, MapKept.run_getObj_map h1, K.check, hf, ha, Option.map_some]
      have hk2 : ((es[i]?).map (·.key)).getD x.keyV = x.keyV := by
        rw [← Array.getElem?_toList, hk]; rfl
      rw [hk2]
      unfold Instr.keyThatStays
      rw [hs]
      simp only [if_true, Sem.run_pure, Result.andThen_ok]
      exact MapKept.run_setObj_map _ h1
    · unfold ChangeMaps.setBlock; simp [hg]
    · rw [Array.toList_modify]; exact readsC_modify ha h2
    · rw [atKeyC_put, h3]
end
end Go.Inq

namespace Go.Proofs.YtjomijnbnbideaaGreatDoor
open Go.RowKit Go.Inq
set_option maxHeartbeats 1000000

theorem choEq31 (x y : Cho) (w : World) : (Op.equal 49 x.keyV y.keyV).run Tryz.prog w = .ok (decide (x = y)) w := by
  unfold Op.equal Op.maxDepth Cho.keyV
  rw [run_equalIn_agg w 9999 49 _ _ (by kernel_rfl) (by kernel_rfl)]
  have h1 : decide (x = y) = (x.key == y.key && (x.a == y.a && x.b == y.b)) := by
    rw [Bool.eq_iff_iff]
    simp only [decide_eq_true_eq, Bool.and_eq_true, beq_iff_eq]
    cases x; cases y
    simp
  rw [h1]
  cases g0 : (x.key == y.key) <;> cases g1 : (x.a == y.a) <;> cases g2 : (x.b == y.b) <;> simp [Program.fieldsOf, Tryz.underlying49, Op.eqFields, go_sem, g0, g1, g2]
theorem choCheck31 (e : Bool) (x : Cho) (w : World) : (Instr.checkKey e 10000 49 x.keyV).run Tryz.prog w = .ok () w := by
  kernel_rfl
theorem choKey : ChoKey Tryz.prog 49 := ⟨⟨_, Tryz.underlying49⟩, choCheck31, choEq31⟩
def encB31 (b : Bool) : Value := .bool b
end Go.Proofs.YtjomijnbnbideaaGreatDoor

namespace Go.Proofs.YtjomijnbnbideaaGreatDoor
open Go.RowKit Go.Inq
set_option maxHeartbeats 8000000
attribute [local go_sem ↓] Go.wp_at_zero Go.wp_at_succ

def KC (g : Nat) (w : World) : Nat → Prop := fun b => b < g ∨ ∃ cs, Blk w b 49 cs
theorem KC.agree {g n0 : Nat} {σ : List TypeId} {w w' : World} (hT : TyW n0 σ w w') (hg : g ≤ n0) (hs : 49 ∉ σ) : Agree (KC g w) w w' := fun b hb => by
  rcases hb with hb | ⟨cs, hb⟩
  · exact hT.below.block b (by omega)
  · exact (show w'.heap[b]? = _ from hT.blk hb hs).trans hb.symm
theorem KC.step {g n0 : Nat} {σ : List TypeId} {w w' : World} (hT : TyW n0 σ w w') (hs : 49 ∉ σ) {b : Nat} (h : KC g w b) : KC g w' b := by
  rcases h with h | ⟨cs, h⟩
  · exact .inl h
  · exact .inr ⟨cs, hT.blk h hs⟩
theorem KC.ty {g n0 : Nat} {σ : List TypeId} {w w' : World} {v : Value} {M : List Cho} (h : ChoS w (KC g w) v M) (hT : TyW n0 σ w w') (hg : g ≤ n0) (hs : 49 ∉ σ) : ChoS w' (KC g w') v M :=
  ChoS.keep h (KC.agree hT hg hs) fun _ h => KC.step hT hs h
theorem KC.own {g : Nat} {w : World} {v : Value} {M : List Cho} (h : w.ownsRow g 49 3 v M.length (M.map encC).flatten) : ChoS w (KC g w) v M := by
  have h2 : OwnR 3 (Flat encC) w (KC g w) g 49 v M := OwnR.flat h (fun _ => rfl)
  refine h2.sl fun b hb => ?_
  obtain ⟨cs, h3⟩ := h2.blk hb
  exact .inr ⟨cs, h3⟩
def RdV (w0 : World) (g : Nat) (l : List Nod) (W : World) : Prop := ∃ A c, Blk W g 226 #[.slice A l.length c] ∧ NodS w0 (fun b => b < g) (.slice A l.length c) l
theorem RdV.rd {w0 W : World} {g : Nat} {l : List Nod} (h : RdV w0 g l W) (ha : Agree (fun b => b < g) w0 W) : RdW W g l := by
  obtain ⟨A, c, h1, h2⟩ := h
  exact ⟨A, c, h1, h2.keep ha fun _ h => h⟩
theorem RdW.rv {w0 W : World} {g : Nat} {l : List Nod} (h : RdW W g l) (ha : Agree (fun b => b < g) w0 W) : RdV w0 g l W := by
  obtain ⟨A, c, h1, h2⟩ := h
  exact ⟨A, c, h1, h2.keep (fun b hb => (ha b hb).symm) fun _ h => h⟩
def wRd (w0 : World) (g : Nat) (l : List Nod) : Wrd := ⟨[226], fun _ W => RdV w0 g l W, fun _ _ _ _ _ h hT k => by
  obtain ⟨A, c, h1, h2⟩ := k
  exact ⟨A, c, hT.blk h1 (h _ (by simp)), h2⟩⟩
theorem ChoS.clip {w : World} {K : Nat → Prop} {A : Option Addr} {c : Nat} {M : List Cho} (h : ChoS w K (.slice A M.length c) M) : ChoS w K (.slice A M.length M.length) M := by
  obtain ⟨A', c', xs, e, h1, h2, h3, h4⟩ := h
  injection e with e1 e2 e3
  subst e1
  exact ⟨A, M.length, xs, rfl, Nat.le_refl _, h2, h3, h4⟩
theorem ChoS.capC {w : World} {K : Nat → Prop} {A : Option Addr} {c : Nat} {M : List Cho} (h : ChoS w K (.slice A M.length c) M) : M.length ≤ c := by
  obtain ⟨_, _, e, h1⟩ := SlR.len h
  simp only [Value.slice.injEq] at e
  omega
def HeldOut (g : Nat) (q : Bool) (rest : List Nod) (w : World) (e : Ending) (w' : World) : Prop := e = .returned (.bool q) ∧ RdW w' g rest ∧ TyW g [226] w w'
set_option maxRecDepth 100000 in
theorem held24_leaf (g : Nat) (A : Option Addr) (c : Nat) (H : List Txn) (level : Int) (n : Nod) (rest : List Nod) (M : List Cho) (Am : Option Addr) (cm : Nat) (w : World) (h : TxnS w (fun b => b < g) (.slice A H.length c) H) (hn : SmallH H)
    (hM : ChoS w (KC g w) (.slice Am M.length cm) M) (hR : RdW w g (n :: rest)) (hc : n.cyc ≠ []) (hcl : n.cyc.length ≤ 1000000) (hrl : rest.length + 1 ≤ maxLen) (hml : M.length ≤ 1000000000) :
    Calls Tryz.prog 168 #[.pointer (some ⟨g, 0, none⟩), .agg #[.slice A H.length c], .int .i64 level, .slice Am M.length cm] w (HeldOut g (decide (n.c = zeroC) && ringB H level M n.cyc) rest w) := by
  have hgl := hR.lt
  obtain ⟨W1, hW1⟩ : ∃ W1, w.alloc (.cells #[.slice A H.length c] 24) = W1 := ⟨_, rfl⟩
  have hb1 := below_allocEq (Below.refl w.heap.size w) hW1 (Nat.le_refl _)
  have k1 := Blk.newEq hW1
  have hT1 : TyW g [226] w W1 := TyW.calm hb1 (Nat.le_of_lt hgl)
  have hx := hide (next24_ok g n rest W1 (hR.below hb1) hrl)
  obtain ⟨P, hP⟩ : ∃ P, HeldOut g (decide (n.c = zeroC) && ringB H level M n.cyc) rest w = P := ⟨_, rfl⟩
  rw [hP]
  replace hP := hide hP
  go_enter Tryz.func168, Tryz.ntmps168
  go_wp2_with fail
  refine hx.out.mono ?_
  rintro e w2 ⟨Ay, cy, rfl, hI, hR2, hT2⟩
  clear hx hW1
  have hT := hT1.trans hT2
  have k2 := hT2.blk k1 (by decide)
  obtain ⟨⟨nk, na, nb⟩, nc⟩ := n
  dsimp only at hc hcl hI hP ⊢
  have hsz := hT.size
  obtain ⟨W3, hW3⟩ : ∃ W3, w2.alloc (.cells #[.int .i64 nk, .int .i64 na, .int .i64 nb, .slice Ay nc.length cy] 114) = W3 := ⟨_, rfl⟩
  have hb3 := below_allocEq (Below.refl w2.heap.size w2) hW3 (Nat.le_refl _)
  have n3 := Blk.newEq hW3
  have k3 := k2.below hb3 k2.lt
  have hT3 : TyW g [226] w W3 := hT.trans (TyW.calm hb3 (by omega))
  have hR3 := hR2.below hb3
  have hI3 := hI.keep (Agree.below hb3 fun b (hb : b < g) => by omega) fun _ h => h
  have h3 := TxnS.keep (K' := fun b => b < g) h (Agree.below hT3.below fun b hb => hb) fun _ h => h
  have hM3 := KC.ty hM hT3 (Nat.le_refl _) (by decide)
  have c0 := Blk.n0 k3
  have m0 := Blk.n0 n3
  have m1 := Blk.n1 n3
  have m2 := Blk.n2 n3
  have m3 := Blk.n3 n3
  have g1 : decide ((nc.length : Int) > 0) = true := by have := List.length_pos_iff.2 hc; simp; omega
  have g2 : decide (0 < nc.length) = true := by have := List.length_pos_iff.2 hc; simp; omega
  have hrg := hide (ring19_any A c H level Am cm M Ay cy nc W3 (h3.fit fun b hb => by show b < _; have := hT3.size; omega) hn (hM3.fit fun b hb => by
    rcases hb with hb | ⟨cs, hb⟩
    · show b < _; have := hT3.size; omega
    · exact hb.lt) hml (hI3.fit fun b hb => by show b < _; have := hT3.size; omega) (by omega))
  have hO : ∀ q W', q = (decide ((⟨nk, na, nb⟩ : Cho) = zeroC) && ringB H level M nc) → Below W3.heap.size W3 W' → Hid (HeldOut g (decide ((⟨nk, na, nb⟩ : Cho) = zeroC) && ringB H level M nc) rest w (.returned (.bool q)) W') := fun q W' e hb =>
    hide ⟨by rw [e], hR3.below hb, hT3.trans (TyW.calm hb (by have := hT3.size; omega))⟩
  clear hR hM hI h k1 k2 hR2 hT hT1 hT2 hb1 hb3 n3 k3 hI3 h3 hM3 hc hT3 hR3
  replace hO := hide hO
  by_cases hz : (⟨nk, na, nb⟩ : Cho) = ⟨0, 0, 0⟩
  · injection hz with z0 z1 z2
    subst z0 z1 z2
    go_upto_region 3 with fail
    try rw [hW3]
    clear hW3
    go_wp2_with fail
    refine hrg.out.mono ?_
    rintro e w4 ⟨rfl, hb4⟩
    go_wp2
    rw [← hP.out]
    exact (hO.out _ _ rfl hb4).out
  · have hz0 : decide ((⟨nk, na, nb⟩ : Cho) = zeroC) = false := decide_eq_false hz
    have hO2 := hide (hO.out false W3 (by rw [hz0]; rfl) (Below.refl _ _))
    have hsp : nk ≠ 0 ∨ (nk = 0 ∧ na ≠ 0) ∨ (nk = 0 ∧ na = 0 ∧ nb ≠ 0) := by
      by_cases q0 : nk = 0
      · by_cases q1 : na = 0
        · by_cases q2 : nb = 0
          · subst q0 q1 q2; exact absurd rfl hz
          · exact .inr (.inr ⟨q0, q1, q2⟩)
        · exact .inr (.inl ⟨q0, q1⟩)
      · exact .inl q0
    replace hO2 := hide hO2
    replace hz := hide hz
    clear hO hrg hz0
    rcases hsp with q | ⟨rfl, q⟩ | ⟨rfl, rfl, q⟩
    · have qb : (nk == 0) = false := by simpa using q
      clear q
      go_upto_region 3 with fail
      try rw [hW3]
      clear hW3
      go_wp2
      rw [← hP.out]
      exact hO2.out.out
    · have qb : (na == 0) = false := by simpa using q
      clear q
      go_upto_region 3 with fail
      try rw [hW3]
      clear hW3
      go_wp2
      rw [← hP.out]
      exact hO2.out.out
    · have qb : (nb == 0) = false := by simpa using q
      clear q
      go_upto_region 3 with fail
      try rw [hW3]
      clear hW3
      go_wp2
      rw [← hP.out]
      exact hO2.out.out
end Go.Proofs.YtjomijnbnbideaaGreatDoor

namespace Go.Proofs.YtjomijnbnbideaaGreatDoor
open Go.RowKit Go.Inq
set_option maxHeartbeats 8000000
attribute [local go_sem ↓] Go.wp_at_zero Go.wp_at_succ

set_option maxRecDepth 100000 in
theorem held24_any (g : Nat) (A : Option Addr) (c : Nat) (H : List Txn) (level : Int) (hn : SmallH H) : ∀ (t : Tr) (rest : List Nod) (M : List Cho) (Am : Option Addr) (cm : Nat) (w : World), TxnS w (fun b => b < g) (.slice A H.length c) H →
    ChoS w (KC g w) (.slice Am M.length cm) M → RdW w g (t.flat ++ rest) → t.ok → CycN t.flat → t.flat.length + rest.length ≤ 100000000 → M.length + t.flat.length ≤ 1000000000 →
    Calls Tryz.prog 168 #[.pointer (some ⟨g, 0, none⟩), .agg #[.slice A H.length c], .int .i64 level, .slice Am M.length cm] w (HeldOut g (t.held H level M) rest w) := by
  intro t
  induction t with
  | leaf n =>
    intro rest M Am cm w h hM hR hok hcy hl hml
    have h1 : (Tr.leaf n).flat = [n] := rfl
    rw [h1] at hR hcy hl hml
    exact held24_leaf g A c H level n rest M Am cm w h hn hM hR hok (hcy n (by simp)) (by simp only [List.length_cons, List.length_nil] at hl; unfold maxLen; omega) (by omega)
  | fork f x y ihx ihy =>
    intro rest M Am cm w h hM hR hok hcy hl hml
    obtain ⟨ic, hic, hi1, hi2, hi3⟩ := info_parts infoC9
    have hflat : (Tr.fork f x y).flat = ⟨f, []⟩ :: (x.flat ++ y.flat) := rfl
    rw [hflat] at hR hcy hl hml
    rw [List.cons_append, List.append_assoc] at hR
    simp only [List.length_cons, List.length_append] at hl hml
    have hheld : Hid ((Tr.fork f x y).held H level M = (x.held H level (M ++ [f]) && y.held H level (M ++ [turnB f]) && oneB H f)) := hide rfl
    have hcx : CycN x.flat := fun n hn => hcy n (by simp [hn])
    have hcyy : CycN y.flat := fun n hn => hcy n (by simp [hn])
    obtain ⟨fk, fa, fb⟩ := f
    have hgl := hR.lt
    obtain ⟨W1, hW1⟩ : ∃ W1, w.alloc (.cells #[.slice A H.length c] 24) = W1 := ⟨_, rfl⟩
    have hb1 := below_allocEq (Below.refl w.heap.size w) hW1 (Nat.le_refl _)
    have k1 := Blk.newEq hW1
    have hT1 : TyW g [226] w W1 := TyW.calm hb1 (Nat.le_of_lt hgl)
    have hx := hide (next24_ok g ⟨⟨fk, fa, fb⟩, []⟩ (x.flat ++ (y.flat ++ rest)) W1 (hR.below hb1) (by simp only [List.length_append]; unfold maxLen; omega))
    obtain ⟨P, hP⟩ : ∃ P, HeldOut g ((Tr.fork ⟨fk, fa, fb⟩ x y).held H level M) rest w = P := ⟨_, rfl⟩
    rw [hP]
    rw [hheld.out] at hP
    replace hP := hide hP
    clear hheld hflat hcy
    obtain ⟨qx, hqx⟩ : ∃ qx, x.held H level (M ++ [⟨fk, fa, fb⟩]) = qx := ⟨_, rfl⟩
    obtain ⟨qy, hqy⟩ : ∃ qy, y.held H level (M ++ [turnB ⟨fk, fa, fb⟩]) = qy := ⟨_, rfl⟩
    rw [hqx, hqy] at hP
    have hcap := ChoS.capC hM
    replace hcap := hide hcap
    go_enter Tryz.func168, Tryz.ntmps168
    go_wp2_with fail
    refine hx.out.mono ?_
    rintro e w2 ⟨Ay, cy, rfl, -, hR2, hT2⟩
    clear hx hW1
    have hT := hT1.trans hT2
    have k2 := hT2.blk k1 (by decide)
    dsimp only at hP ⊢
    have hsz := hT.size
    obtain ⟨W3, hW3⟩ : ∃ W3, w2.alloc (.cells #[.int .i64 fk, .int .i64 fa, .int .i64 fb, .slice Ay 0 cy] 114) = W3 := ⟨_, rfl⟩
    have hb3 := below_allocEq (Below.refl w2.heap.size w2) hW3 (Nat.le_refl _)
    have n3 := Blk.newEq hW3
    have k3 := k2.below hb3 k2.lt
    have hT3 : TyW g [226] w W3 := hT.trans (TyW.calm hb3 (by omega))
    have hR3 := hR2.below hb3
    have h3 := TxnS.keep (K' := fun b => b < g) h (Agree.below hT3.below fun b hb => hb) fun _ h => h
    have hM3 := KC.ty hM hT3 (Nat.le_refl _) (by decide)
    have hMc : Hid (ChoS W3 (KC g W3) (.slice Am M.length M.length) M) := hide (ChoS.clip hM3)
    obtain ⟨N, hNM⟩ : ∃ N, M ++ [(⟨fk, fa, fb⟩ : Cho)] = N := ⟨_, rfl⟩
    obtain ⟨N2, hNM2⟩ : ∃ N2, M ++ [(⟨fk, fb, fa⟩ : Cho)] = N2 := ⟨_, rfl⟩
    have hN2 : M ++ [turnB ⟨fk, fa, fb⟩] = N2 := hNM2
    have hNl : N.length = M.length + 1 := by rw [← hNM]; simp
    have hN2l : N2.length = M.length + 1 := by rw [← hNM2]; simp
    rw [hNM] at hqx
    rw [hN2] at hqy
    have ihx1 := hide (fun W (A6 : Option Addr) (c6 : Nat) (hT : TyW g [226] W3 W) (hC : ChoS W (KC g W) (.slice A6 N.length c6) N) (hRd : RdW W g (x.flat ++ (y.flat ++ rest))) => (by
      have := ihx (y.flat ++ rest) N A6 c6 W (TxnS.keep (K' := fun b => b < g) h3 (Agree.below hT.below fun b hb => hb) fun _ h => h) hC hRd hok.1 hcx (by rw [List.length_append]; omega) (by omega)
      rw [hqx] at this
      exact this : Calls Tryz.prog 168 #[.pointer (some ⟨g, 0, none⟩), .agg #[.slice A H.length c], .int .i64 level, .slice A6 N.length c6] W (HeldOut g qx (y.flat ++ rest) W)))
    have ihy1 := hide (fun W (A6 : Option Addr) (c6 : Nat) (hT : TyW g [226] W3 W) (hC : ChoS W (KC g W) (.slice A6 N2.length c6) N2) (hRd : RdW W g (y.flat ++ rest)) => (by
      have := ihy rest N2 A6 c6 W (TxnS.keep (K' := fun b => b < g) h3 (Agree.below hT.below fun b hb => hb) fun _ h => h) hC hRd hok.2 hcyy (by omega) (by omega)
      rw [hqy] at this
      exact this : Calls Tryz.prog 168 #[.pointer (some ⟨g, 0, none⟩), .agg #[.slice A H.length c], .int .i64 level, .slice A6 N2.length c6] W (HeldOut g qy rest W)))
    have hF1 := hR3.rv (Agree.refl _ W3)
    have hchs := hide (fun W (hT : TyW g [226] W3 W) => choice24_any A c H fk fa fb W ((TxnS.keep (K' := fun b => b < g) h3 (Agree.below hT.below fun b hb => hb) fun _ h => h).fit fun b (hb : b < g) => by show b < _; have := hT.size; have := hT3.size; omega) hn)
    have c0 := Blk.n3 n3
    have hszA : g ≤ W3.heap.size := by have := hT3.size; omega
    have hMl : M.length ≤ 1000000000 := by omega
    clear hR hM h k1 k2 hR2 hT hT1 hT2 hb1 hb3 h3 hM3 hR3 ihx ihy hqx hqy hok hcx hcyy hN2
    replace hNl := hide hNl
    replace hN2l := hide hN2l
    obtain ⟨l1, hl1⟩ : ∃ l1, x.flat ++ (y.flat ++ rest) = l1 := ⟨_, rfl⟩
    obtain ⟨l2, hl2⟩ : ∃ l2, y.flat ++ rest = l2 := ⟨_, rfl⟩
    rw [hl1] at hF1 ihx1
    rw [hl2] at ihx1 ihy1
    clear hl1 hl2 hl hml
    go_upto_region 4 with fail
    try rw [hW3]
    generalize w2.heap.size = gN at *
    clear hW3 c0
    go_wp2_with fail
    refine (clipCh_any Am M.length cm W3 hcap.out).mono ?_
    rintro e w' ⟨rfl, rfl⟩
    replace hMc := hMc.out
    go_upto_region 5 with fail
    refine wp_region_tabs g [wV (.pointer (some ⟨g, 0, none⟩)), wV (.agg #[.slice A H.length c]), wV (.int .i64 level), wV (.slice Am M.length M.length), wV (.pointer (some ⟨gN, 0, none⟩)), wV (.agg #[.int .i64 fk, .int .i64 fa, .int .i64 fb]), wS g 49 1 #[.int .i64 fk, .int .i64 fa, .int .i64 fb], wO g 49 3 N.length (N.map encC).flatten, wA (wV (.bool qx)) (wRd W3 g l2), wV (.bool qx), wRd W3 g l1] [[], [], [], [], [], [4], [5], [3,6], [0,1,2,7,10], [8]] [[], [], [], [], [], [], [], [], [226], []] [[], [], [], [], [], [], [49], [49], [226], [], [226]] [] [226] hszA (by kernel_rfl) (by kernel_rfl) (by kernel_rfl) (by kernel_rfl) (by kernel_rfl) (by kernel_rfl) rfl ⟨fun _ => hF1, trivial⟩ (by kernel_rfl) (by kernel_rfl) ?hstep ?hend
    case hstep =>
      simp only [StepsT, WantsT, RsT, acV, wV, wO, wS, wB, wU, wX, wK, wA, wRd, updV, gA, gZ, gS, List.getD_cons_zero, List.getD_cons_succ, List.getD_nil, Act.put, sA, sZ, sS, Nat.zero_add, Nat.reduceAdd, if_true, and_true]
      refine ⟨?_, ?o1, ?_, ?_, ?_, ?o5, ?o6, ?o7, ?o8, ?o9⟩
      all_goals intro vs W R hR hT hd
      all_goals have hsz : g ≤ W.heap.size := Nat.le_trans hszA hT.size
      case o1 =>
        have c0 := Blk.n0 (hT.blk k3 (by decide))
        go_wp2
        exact ⟨rfl, _, rfl, hR _ _ rfl (TyW.refl _ _ _)⟩
      case o5 =>
        have kq := hT.blk n3 (by decide)
        have c0 := Blk.n0 kq
        have c1 := Blk.n1 kq
        have c2 := Blk.n2 kq
        rw [hd]
        go_wp2
        exact ⟨rfl, _, rfl, hR _ _ rfl (TyW.refl _ _ _)⟩
      case o6 =>
        rw [hd]
        go_wp2
        exact ⟨rfl, _, rfl, hR _ _ ⟨W.heap.size, hsz, rfl, Blk.new _ _ _⟩ (TyW.calm ((Below.refl _ _).alloc (Nat.le_refl _) _) hsz)⟩
      case o7 =>
        obtain ⟨e3, gg, hg, e5, kg⟩ := hd
        rw [e3, e5]
        refine wpList_append_full (enc := encC) rfl _ _ 61 rfl 49 ic _ 3 24 Tryz.underlying61 hic hi1 hi2 hi3 rfl (by decide) Am (KC g W) M rfl (KC.ty hMc hT (Nat.le_refl _) (by decide)) (fun _ => rfl) gg _ ⟨fk, fa, fb⟩ kg rfl rfl encC_one (by unfold maxLen; omega) (by omega) ?_
        intro v6 W6 hown6 hb6
        rw [hNM] at hown6
        exact ⟨rfl, _, rfl, hR _ _ (own_baseT hown6 hsz) (TyW.calm hb6 hsz)⟩
      case o8 =>
        obtain ⟨e0, e1, e2, o7, hF⟩ := hd
        obtain ⟨A6, c6, e6⟩ := own_slice o7
        rw [e6] at o7
        rw [e0, e1, e2, e6]
        have hag := Agree.below hT.below (K := fun b => b < g) fun b hb => hb
        go_wp2_with fail
        refine (ihx1.out W A6 c6 hT (KC.own o7) (RdV.rd hF hag)).mono ?_
        rintro e W2 ⟨rfl, hR2, hT2⟩
        go_wp2
        exact ⟨rfl, _, rfl, hR _ _ ⟨rfl, hR2.rv (hag.trans (Agree.below hT2.below fun b hb => hb))⟩ hT2⟩
      case o9 =>
        rw [hd.1]
        go_wp2
        exact ⟨rfl, _, rfl, hR _ _ rfl (TyW.refl _ _ _)⟩
      all_goals (go_wp2; exact ⟨rfl, _, rfl, hR _ _ (by first | rfl | trivial) (TyW.refl _ _ _)⟩)
    case hend =>
      intro vs W hT hd
      have o8 : vs 8 = .bool qx ∧ RdV W3 g l2 W := hd 8 (by simp) (by kernel_rfl)
      have o9 : vs 9 = .bool qx := hd 9 (by simp) (by kernel_rfl)
      simp only [acV, gA, gZ, gS, Act.put, sA, sZ, sS, List.length_cons, List.length_nil, Nat.reduceAdd]
      rw [o9]
      have hF2 := o8.2
      have k4 := hT.blk k3 (by decide)
      have n4 := hT.blk n3 (by decide)
      have hagB := Agree.below hT.below (K := fun b => b < g) fun b hb => hb
      have hTB3 := hT
      have hMd := KC.ty hMc hT (Nat.le_refl _) (by decide)
      have hszB : g ≤ W.heap.size := Nat.le_trans hszA hT.size
      clear hd o8 o9 hT ihx1 hF1 k3 n3 hszA hMc
      obtain ⟨W4, hW4⟩ : ∃ W4, W4 = W := ⟨_, rfl⟩
      subst hW4
      go_upto_region 6 with fail
      refine wp_region_tabs g [wV (.pointer (some ⟨g, 0, none⟩)), wV (.agg #[.slice A H.length c]), wV (.int .i64 level), wV (.slice Am M.length M.length), wV (.pointer (some ⟨gN, 0, none⟩)), wV (.agg #[.int .i64 fk, .int .i64 fa, .int .i64 fb]), wV (.agg #[.int .i64 fk, .int .i64 fb, .int .i64 fa]), wS g 49 1 #[.int .i64 fk, .int .i64 fb, .int .i64 fa], wO g 49 3 N2.length (N2.map encC).flatten, wA (wV (.bool qy)) (wRd W3 g rest), wV (.bool qy), wRd W3 g l2] [[], [], [], [], [], [4], [5], [6], [3,7], [0,1,2,8,11], [9]] [[], [], [], [], [], [], [], [], [], [226], []] [[], [], [], [], [], [], [], [49], [49], [226], [], [226]] [] [226] hszB (by kernel_rfl) (by kernel_rfl) (by kernel_rfl) (by kernel_rfl) (by kernel_rfl) (by kernel_rfl) rfl ⟨fun _ => hF2, trivial⟩ (by kernel_rfl) (by kernel_rfl) ?hstep ?hend
      case hstep =>
        simp only [StepsT, WantsT, RsT, acV, wV, wO, wS, wB, wU, wX, wK, wA, wRd, updV, gA, gZ, gS, List.getD_cons_zero, List.getD_cons_succ, List.getD_nil, Act.put, sA, sZ, sS, Nat.zero_add, Nat.reduceAdd, if_true, and_true]
        refine ⟨?_, ?o1, ?_, ?_, ?_, ?o5, ?o6, ?o7, ?o8, ?o9, ?o10⟩
        all_goals intro vs W R hR hT hd
        all_goals have hsz : g ≤ W.heap.size := Nat.le_trans hszB hT.size
        case o1 =>
          have c0 := Blk.n0 (hT.blk k4 (by decide))
          go_wp2
          exact ⟨rfl, _, rfl, hR _ _ rfl (TyW.refl _ _ _)⟩
        case o5 =>
          have kq := hT.blk n4 (by decide)
          have c0 := Blk.n0 kq
          have c1 := Blk.n1 kq
          have c2 := Blk.n2 kq
          rw [hd]
          go_wp2
          exact ⟨rfl, _, rfl, hR _ _ rfl (TyW.refl _ _ _)⟩
        case o6 =>
          rw [hd]
          go_wp2_with fail
          refine (back24_any fk fa fb W).mono ?_
          rintro e W2 ⟨rfl, hb2⟩
          go_wp2
          exact ⟨rfl, _, rfl, hR _ _ rfl (TyW.calm hb2 hsz)⟩
        case o7 =>
          rw [hd]
          go_wp2
          exact ⟨rfl, _, rfl, hR _ _ ⟨W.heap.size, hsz, rfl, Blk.new _ _ _⟩ (TyW.calm ((Below.refl _ _).alloc (Nat.le_refl _) _) hsz)⟩
        case o8 =>
          obtain ⟨e3, gg, hg, e5, kg⟩ := hd
          rw [e3, e5]
          refine wpList_append_full (enc := encC) rfl _ _ 61 rfl 49 ic _ 3 24 Tryz.underlying61 hic hi1 hi2 hi3 rfl (by decide) Am (KC g W) M rfl (KC.ty hMd hT (Nat.le_refl _) (by decide)) (fun _ => rfl) gg _ ⟨fk, fb, fa⟩ kg rfl rfl encC_one (by unfold maxLen; omega) (by omega) ?_
          intro v6 W6 hown6 hb6
          rw [hNM2] at hown6
          exact ⟨rfl, _, rfl, hR _ _ (own_baseT hown6 hsz) (TyW.calm hb6 hsz)⟩
        case o9 =>
          obtain ⟨e0, e1, e2, o7, hF⟩ := hd
          obtain ⟨A6, c6, e6⟩ := own_slice o7
          rw [e6] at o7
          rw [e0, e1, e2, e6]
          have hag := hagB.trans (Agree.below hT.below (K := fun b => b < g) fun b hb => hb)
          go_wp2_with fail
          refine (ihy1.out W A6 c6 (hTB3.trans hT) (KC.own o7) (RdV.rd hF hag)).mono ?_
          rintro e W2 ⟨rfl, hR2, hT2⟩
          go_wp2
          exact ⟨rfl, _, rfl, hR _ _ ⟨rfl, hR2.rv (hag.trans (Agree.below hT2.below fun b hb => hb))⟩ hT2⟩
        case o10 =>
          rw [hd.1]
          go_wp2
          exact ⟨rfl, _, rfl, hR _ _ rfl (TyW.refl _ _ _)⟩
        all_goals (go_wp2; exact ⟨rfl, _, rfl, hR _ _ (by first | rfl | trivial) (TyW.refl _ _ _)⟩)
      case hend =>
        intro vs W hT hd
        have o9 : vs 9 = .bool qy ∧ RdV W3 g rest W := hd 9 (by simp) (by kernel_rfl)
        have o10 : vs 10 = .bool qy := hd 10 (by simp) (by kernel_rfl)
        simp only [acV, gA, gZ, gS, Act.put, sA, sZ, sS, List.length_cons, List.length_nil, Nat.reduceAdd]
        rw [o10]
        have hT6 := hTB3.trans hT
        have hag := hagB.trans (Agree.below hT.below (K := fun b => b < g) fun b hb => hb)
        have hRd := RdV.rd o9.2 hag
        have k5 := hT.blk k4 (by decide)
        have n5 := hT.blk n4 (by decide)
        have hTf := hT3.trans hT6
        have hcc := hide (hchs.out W hT6)
        have hgW := hTf.size
        clear hd o9 o10 hT ihy1 hF2 k4 n4 hszB hMd hTB3 hagB hag hchs hT6 hT3
        have c0 := Blk.n0 k5
        have m0 := Blk.n0 n5
        have m1 := Blk.n1 n5
        have m2 := Blk.n2 n5
        have hO : ∀ q W', q = (qx && qy && oneB H ⟨fk, fa, fb⟩) → Below W.heap.size W W' → P (.returned (.bool q)) W' := fun q W' e hb => by
          rw [← hP.out]
          exact ⟨by rw [e], hRd.below hb, hTf.trans (TyW.calm hb (by omega))⟩
        replace hO := hide hO
        clear k5 n5 hRd hTf
        cases qx with
        | false =>
          have hf := hide (hO.out false W rfl (Below.refl _ _))
          clear hO hcc
          go_wp2
          exact hf.out
        | true =>
          cases qy with
          | false =>
            have hf := hide (hO.out false W rfl (Below.refl _ _))
            clear hO hcc
            go_wp2
            exact hf.out
          | true =>
            go_wp2_with fail
            refine hcc.out.mono ?_
            rintro e w' ⟨rfl, hb7⟩
            have hf := hide (hO.out _ w' rfl hb7)
            clear hO
            go_wp2
            exact hf.out
end Go.Proofs.YtjomijnbnbideaaGreatDoor

namespace Go.Proofs.YtjomijnbnbideaaGreatDoor
open Go.RowKit Go.Inq
set_option maxHeartbeats 1000000
attribute [local go_sem ↓] Go.wp_at_zero Go.wp_at_succ

theorem shapeR_o {l : List Nod} : (shapeR l).2.2 = (treeO l).isSome := by
  unfold shapeR
  cases treeO l <;> rfl
set_option maxRecDepth 100000 in
theorem check24_any (A : Option Addr) (c : Nat) (H : List Txn) (level : Int) (Am : Option Addr) (cm : Nat) (M : List Cho) (At : Option Addr) (ct : Nat) (tree : List Nod) (w : World) (h : TxnS w (Old w) (.slice A H.length c) H) (hn : SmallH H)
    (hM : ChoS w (Old w) (.slice Am M.length cm) M) (hml : M.length ≤ 100000000) (ht : NodS w (Old w) (.slice At tree.length ct) tree) (htl : tree.length ≤ 100000000) (hcy : CycN tree) :
    Calls Tryz.prog 105 #[.agg #[.slice A H.length c], .int .i64 level, .slice Am M.length cm, .slice At tree.length ct] w fun e w' => e = .returned (.bool (treeB H level M tree)) ∧ Below w.heap.size w w' := by
  obtain ⟨W0, hW0⟩ : ∃ W0, w.alloc (.cells #[.slice A H.length c] 24) = W0 := ⟨_, rfl⟩
  have hB := below_allocEq (Below.refl w.heap.size w) hW0 (Nat.le_refl _)
  have k0 := Blk.newEq hW0
  have hsh := hide (shape24_any At ct tree W0 (ht.below hB) htl)
  have hrc := hide (fun W (hb : Below w.heap.size w W) => right8_any A c H W (h.below hb) hn)
  have hdef : Hid (treeB H level M tree = (mayB H level && match treeO tree with | some t => t.held H level M | none => false)) := hide rfl
  have htO : Hid (∀ t, treeO tree = some t → tree = t.flat ∧ t.ok) := hide fun t e => treeO_some.1 e
  have hsO := hide (shapeR_o (l := tree))
  obtain ⟨⟨sl, sd, so⟩, hsr⟩ : ∃ r, shapeR tree = r := ⟨_, rfl⟩
  rw [hsr] at hsh hsO
  dsimp only at hsO
  have hheld := hide (fun t g W (hb : Below w.heap.size w W) (hg : w.heap.size ≤ g) (kg : Blk W g 226 #[.slice At tree.length ct]) (e : tree = Tr.flat t) (hok : t.ok) => (by
    have hag : Agree (Old w) w W := Agree.below hb fun b hb => hb
    have hk : ∀ b, Old w b → b < g := fun b hb => Nat.lt_of_lt_of_le hb hg
    have hR : RdW W g (t.flat ++ []) := by
      rw [List.append_nil, ← e]
      exact ⟨At, ct, kg, ht.keep hag hk⟩
    exact held24_any g A c H level hn t [] M Am cm W (TxnS.keep h hag hk) (ChoS.keep hM hag fun b hb => .inl (hk b hb)) hR hok (by rw [← e]; exact hcy) (by rw [← e]; simpa using htl) (by rw [← e]; omega) :
    Calls Tryz.prog 168 #[.pointer (some ⟨g, 0, none⟩), .agg #[.slice A H.length c], .int .i64 level, .slice Am M.length cm] W (HeldOut g (t.held H level M) [] W)))
  have c0 := Blk.n0 k0
  obtain ⟨r, hr⟩ : ∃ r, treeB H level M tree = r := ⟨_, rfl⟩
  rw [hr] at hdef
  rw [hr]
  clear h hM ht hcy hr hsr
  go_enter Tryz.func105, Tryz.ntmps105
  go_wp2_with fail
  refine hsh.out.mono ?_
  rintro e w1 ⟨rfl, hb1⟩
  have hB1 := hB.trans (hb1.mono hB.size)
  have k1 := k0.below hb1 k0.lt
  clear hsh hW0 c0 k0 hb1 hB
  have c0 := Blk.n0 k1
  have hz : decide (level = 0) = (level == 0) := by rw [Bool.eq_iff_iff]; simp
  have ho : decide (level = 1) = (level == 1) := by rw [Bool.eq_iff_iff]; simp
  have hmay : Hid (mayB H level = (rightH H && ((level == 0) || (level == 1)))) := hide (by unfold mayB; rw [hz, ho])
  rw [hmay.out] at hdef
  clear hz ho hmay
  cases hto : treeO tree with
  | none =>
    rw [hto] at hdef hsO
    have hso : so = false := hsO.out
    have hrf : r = false := by rw [hdef.out]; simp
    subst hso hrf
    clear hdef hsO htO hrc hheld hto
    go_wp2
    go_ret
    exact ⟨rfl, hB1⟩
  | some t =>
    obtain ⟨e1, e2⟩ := htO.out t hto
    rw [hto] at hdef hsO
    dsimp only at hdef
    have hso : so = true := hsO.out
    subst hso
    have hhe := hide (fun g W hb hg kg => hheld.out t g W hb hg kg e1 e2)
    have hrc1 := hide (hrc.out w1 hB1)
    generalize rightH H = q at *
    generalize t.held H level M = hq at *
    generalize hzz : (level == 0) = z at *
    generalize hoo : (level == 1) = o at *
    replace e1 := hide e1
    clear hsO htO hrc hheld hto e2
    go_wp2_with fail
    refine hrc1.out.mono ?_
    rintro e w2 ⟨rfl, hb2⟩
    have hB2 := hB1.trans (hb2.mono hB1.size)
    have k2 := k1.below hb2 k1.lt
    clear hrc1 c0 k1 hb2 hB1 w1
    have c0 := Blk.n0 k2
    have hno : (q && (z || o)) = false → r = false := fun e => by rw [hdef.out, e]; rfl
    have hyes : (q && (z || o)) = true → r = hq := fun e => by rw [hdef.out, e]; rfl
    obtain ⟨W3, hW3⟩ : ∃ W3, w2.alloc (.cells #[.slice At tree.length ct] 226) = W3 := ⟨_, rfl⟩
    have hb3 := below_allocEq (Below.refl w2.heap.size w2) hW3 (Nat.le_refl _)
    have hB3 := hB2.trans (hb3.mono hB2.size)
    have hhx := hide (hhe.out w2.heap.size W3 hB3 hB2.size (Blk.newEq hW3))
    have k3 := k2.below hb3 k2.lt
    have c1 := Blk.n0 k3
    have hfin : ∀ (e : Ending) w', HeldOut w2.heap.size hq [] W3 e w' → r = hq → e = .returned (.bool r) ∧ Below w.heap.size w w' := fun e w' he hr => by
      obtain ⟨rfl, -, hT⟩ := he
      exact ⟨by rw [hr], hB3.trans (hT.below.mono hB2.size)⟩
    clear hhe hdef k2 k3 hb3 hB3
    replace hfin := hide hfin
    cases q with
    | false =>
      obtain rfl := hno rfl
      clear hyes hno hfin hhx c1 hW3
      go_wp2
      go_ret
      exact ⟨rfl, hB2⟩
    | true =>
      cases z with
      | true =>
        have hr := hide (hyes rfl)
        obtain rfl : level = 0 := by simpa using hzz
        clear hyes hno hzz hoo
        go_wp2_with fail
        refine hhx.out.mono ?_
        intro e w' he
        obtain ⟨f1, f2⟩ := hfin.out e w' he hr.out
        subst f1
        clear he hhx
        go_wp2
        go_ret
        exact ⟨rfl, f2⟩
      | false =>
        cases o with
        | true =>
          have hr := hide (hyes rfl)
          obtain rfl : level = 1 := by simpa using hoo
          clear hyes hno hzz hoo
          go_wp2_with fail
          refine hhx.out.mono ?_
          intro e w' he
          obtain ⟨f1, f2⟩ := hfin.out e w' he hr.out
          subst f1
          clear he hhx
          go_wp2
          go_ret
          exact ⟨rfl, f2⟩
        | false =>
          obtain rfl := hno rfl
          have n0 : (level != 0) = true := by simpa using hzz
          have n1 : (level != 1) = true := by simpa using hoo
          clear hyes hno hfin hhx c1 hW3 hzz hoo
          go_wp2
          go_ret
          exact ⟨rfl, hB2⟩
end Go.Proofs.YtjomijnbnbideaaGreatDoor

namespace Go.Proofs.YtjomijnbnbideaaGreatDoor
open Go.RowKit Go.Inq
set_option maxHeartbeats 4000000
attribute [local go_sem ↓] Go.wp_at_zero Go.wp_at_succ

def Mk.val (m : Mk) (v : Value) : Value := .agg #[.int .i64 m.c.key, .int .i64 m.c.a, .int .i64 m.c.b, .bool m.right, v]
set_option maxRecDepth 100000 in
theorem chosen31_any (k a b : Int) (q : Bool) (A : Option Addr) (n c : Nat) (w : World) : Calls Tryz.prog 107 #[.agg #[.int .i64 k, .int .i64 a, .int .i64 b, .bool q, .slice A n c]] w fun e w' =>
    e = .returned (.agg #[.int .i64 k, .int .i64 (if q then b else a), .int .i64 (if q then a else b)]) ∧ Below w.heap.size w w' := by
  obtain ⟨W0, hW0⟩ : ∃ W0, (w.alloc (.cells #[.int .i64 k, .int .i64 a, .int .i64 b, .bool q, .slice A n c] 157)).alloc (.cells #[.int .i64 0, .int .i64 0, .int .i64 0] 49) = W0 := ⟨_, rfl⟩
  have hb := below_two hW0
  have k1 := Blk.two1 hW0
  have k2 := Blk.two2 hW0
  have a0 := Blk.n0 k1
  have a1 := Blk.n1 k1
  have a2 := Blk.n2 k1
  have a3 := Blk.n3 k1
  cases q with
  | false =>
    have b0 := Blk.n0 k2
    have b1 := Blk.n1 k2
    have b2 := Blk.n2 k2
    have f0 := k2.frozen 0
    have f1 := k2.frozen 1
    have f2 := k2.frozen 2
    have hz := hide (((hb.setCell (p := ⟨w.heap.size + 1, 0, none⟩) (by simp) (.int .i64 k)).setCell (p := ⟨w.heap.size + 1, 1, none⟩) (by simp) (.int .i64 a)).setCell (p := ⟨w.heap.size + 1, 2, none⟩) (by simp) (.int .i64 b))
    have hq := ((k2.set_ 0 (.int .i64 k)).set_ 1 (.int .i64 a)).set_ 2 (.int .i64 b)
    simp only [sA, sZ, sS] at hq
    have y0 := Blk.n0 hq
    have y1 := Blk.n1 hq
    have y2 := Blk.n2 hq
    clear hq k1 k2
    go_enter Tryz.func107, Tryz.ntmps107
    go_wp2_with fail
    exact bodyPost_ret (v := .agg #[.int .i64 k, .int .i64 a, .int .i64 b]) (by simp [results, Tryz.results107, go_sem, y0, y1, y2]) rfl ⟨rfl, hz.out⟩
  | true =>
    have ht := hide (turned31_any k a b W0)
    go_enter Tryz.func107, Tryz.ntmps107
    go_wp2_with fail
    refine ht.out.mono ?_
    rintro e w1 ⟨rfl, hb1⟩
    have hB := hb.trans (hb1.mono hb.size)
    replace k2 := k2.below hb1 k2.lt
    clear a0 a1 a2 a3 ht hW0 hb hb1 k1
    have b0 := Blk.n0 k2
    have b1 := Blk.n1 k2
    have b2 := Blk.n2 k2
    have f0 := k2.frozen 0
    have f1 := k2.frozen 1
    have f2 := k2.frozen 2
    have hz := hide (((hB.setCell (p := ⟨w.heap.size + 1, 0, none⟩) (by simp) (.int .i64 k)).setCell (p := ⟨w.heap.size + 1, 1, none⟩) (by simp) (.int .i64 b)).setCell (p := ⟨w.heap.size + 1, 2, none⟩) (by simp) (.int .i64 a))
    have hq := ((k2.set_ 0 (.int .i64 k)).set_ 1 (.int .i64 b)).set_ 2 (.int .i64 a)
    simp only [sA, sZ, sS] at hq
    have y0 := Blk.n0 hq
    have y1 := Blk.n1 hq
    have y2 := Blk.n2 hq
    clear hq k2
    go_wp2_with fail
    exact bodyPost_ret (v := .agg #[.int .i64 k, .int .i64 b, .int .i64 a]) (by simp [results, Tryz.results107, go_sem, y0, y1, y2]) rfl ⟨rfl, hz.out⟩
theorem chosen_if (m : Mk) : m.chosen = ⟨m.c.key, if m.right then m.c.b else m.c.a, if m.right then m.c.a else m.c.b⟩ := by
  obtain ⟨⟨k, a, b⟩, q, d⟩ := m
  cases q <;> rfl
theorem pathC_step {l : List Mk} {k : Nat} (h : k < l.length) : pathC (l.take (k + 1)) = pathC (l.take k) ++ [l[k].chosen] := by rw [List.take_succ_eq_append_getElem h, pathC_snoc]
set_option maxRecDepth 100000 in
theorem choices31_any (A : Option Addr) (c : Nat) (L : List Mk) (w : World) (h : MkS w (Old w) (.slice A L.length c) L) (hn : L.length ≤ 50000000) :
    Calls Tryz.prog 52 #[.slice A L.length c] w (OutC w (pathC L)) := by
  obtain ⟨ic, hic, hi1, hi2, hi3⟩ := info_parts infoC9
  have hst := hide (fun k (hk : k < L.length) => pathC_step hk)
  have hall := hide (show pathC (L.take L.length) = pathC L by rw [List.take_length])
  replace h := hide h
  go_enter Tryz.func52, Tryz.ntmps52
  go_wp2_with fail
  go_loopw [3, 8] (fun s3 s8 wr => ∃ k : Nat, k ≤ L.length ∧ s8 = .int .i64 k ∧ OwnC wr w.heap.size s3 (pathC (L.take k)) ∧ Below w.heap.size w wr) (fun _ s8 _ => L.length - (intOf s8).toNat)
  case atStart => exact ⟨0, Nat.zero_le _, by go_num, OwnC.nil _ _, Below.refl _ _⟩
  case round =>
    obtain ⟨Wo, rfl⟩ : ∃ Wo, Wo = wr := ⟨_, rfl⟩
    obtain ⟨k, hk, rfl, hown, hb⟩ := hrel
    have hk1 : (0 : Int) ≤ (k : Int) := Int.natCast_nonneg _
    by_cases hlt : k < L.length
    · have hk2 : (k : Int) < (L.length : Int) := by omega
      obtain ⟨b, off, Ay, cy, rfl, -, d⟩ := (h.out.below hb).at_ hlt
      obtain ⟨d0, d1, d2, d3, d4, -⟩ := d
      have hs := hide (hst.out k hlt)
      have hl2 : (pathC (L.take k)).length ≤ 50000000 := by rw [pathC_len, List.length_take]; omega
      have hci := hide (chosen_if L[k])
      generalize L[k] = f at *
      obtain ⟨⟨fk, fa, fb⟩, fq, fy⟩ := f
      dsimp only at d0 d1 d2 d3 d4 hci
      rw [hci.out] at hs
      obtain ⟨Av, cv, rfl⟩ := hown.form
      generalize pathC (L.take k) = M at *
      have hszb := hb.size
      have hA := below_allocEq hb (W := Wo.alloc (.cells #[.int .i64 fk, .int .i64 fa, .int .i64 fb, .bool fq, .slice Ay fy.length cy] 157)) rfl hszb
      have hown2 := hide (World.ownsRow.alloc hown (.cells #[.int .i64 fk, .int .i64 fa, .int .i64 fb, .bool fq, .slice Ay fy.length cy] 157))
      clear hown hci
      go_upto_region 5 with fail
      generalize hWa : Wo.alloc (.cells #[.int .i64 fk, .int .i64 fa, .int .i64 fb, .bool fq, .slice Ay fy.length cy] 157) = Wa at *
      have nn := Blk.newEq hWa
      have hsa := hA.size
      have hcs := hide (chosen31_any fk fa fb fq Ay fy.length cy Wa)
      clear hWa d0 d1 d2 d3 d4
      have e0 := Blk.n0 nn
      have e1 := Blk.n1 nn
      have e2 := Blk.n2 nn
      have e3 := Blk.n3 nn
      have e4 := Blk.n4 nn
      go_wp2_with fail
      refine hcs.out.mono ?_
      rintro e w2 ⟨rfl, hb2⟩
      have hA2 := hA.trans (hb2.mono hA.size)
      have hown3 := hide (own_below hown2.out hb2 (Nat.le_refl _))
      have hsb := hA2.size
      clear hown2 hcs nn e0 e1 e2 e3 e4 hb2 hA
      generalize (if fq = true then fb else fa) = ya at *
      generalize (if fq = true then fa else fb) = yb at *
      go_wp2_with (at_builtin; refine wpList_push (enc := encC) rfl (.tmp 12) (.tmp 15) 61 rfl w.heap.size 49 ic _ 3 24 Tryz.underlying61 hic hi1 hi2 hi3 rfl (by decide) (.slice Av M.length cv) M rfl hown3.out (fun _ => rfl) (⟨fk, ya, yb⟩ : Cho) _ rfl rfl encC_one (by simp [maxLen]; omega) (by omega) hsb w w.heap.size (Nat.le_refl _) hA2 ?_; intro v1 w6 hown1 hg1 hb1 hat1)
      go_wp2
      go_roundw
      case rel => exact ⟨k + 1, by omega, by go_num, by rw [hs.out]; exact hown1, hb1⟩
      case measure => simp [intOf]; omega
    · obtain rfl : k = L.length := by omega
      rw [hall.out] at hown
      go_wp2
      go_ret
      exact ⟨_, rfl, hown, hb⟩
end Go.Proofs.YtjomijnbnbideaaGreatDoor
