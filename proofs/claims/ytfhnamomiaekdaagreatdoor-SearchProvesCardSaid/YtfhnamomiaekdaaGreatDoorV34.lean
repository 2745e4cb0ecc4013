/-
  Walks: layer 20: is a row an order of a history that may be?
-/
import Derived.Test.YtfhnamomiaekdaaGreatDoorV09
import Derived.Test.YtfhnamomiaekdaaGreatDoorV29
import Derived.Test.YtfhnamomiaekdaaGreatDoorV32
import Derived.Test.YtfhnamomiaekdaaGreatDoorV03
import Derived.Test.YtfhnamomiaekdaaGreatDoorV05
set_option linter.unusedVariables false
set_option linter.unusedSimpArgs false
namespace Go.Proofs.YtfhnamomiaekdaaGreatDoor
open Go.RowKit Go.Inq
set_option maxHeartbeats 4000000
attribute [local go_sem↓] Go.wp_at_zero Go.wp_at_succ
def gX(H:List Txn)(π:List Int):Bool:=ay H&&bg π H.length
structure Mg(n:Nat)(l:List Int):Prop where
 nd:l.Nodup
 bd:∀x∈l,0≤x∧x<(n:Int)
theorem Mg.snoc{n:Nat}{l:List Int}{x:Int}(h:Mg n l)(h0:0≤x)(h1:x<(n:Int))(hc:l.contains x=false):Mg n (l++[x]):=by
 have hx:x∉l:=fun hm=>(by rw[List.contains_iff_mem.2 hm]at hc;cases hc);refine⟨?_,fun y hy=> ?_⟩
 ·rw[List.nodup_append];refine⟨h.nd,by simp,fun a ha b hb e=> ?_⟩;rw[List.mem_singleton]at hb;subst hb;subst e;exact hx ha
 ·rw[List.mem_append,List.mem_singleton]at hy;rcases hy with hy|rfl
  ·exact h.bd y hy
  ·exact⟨h0,h1⟩
theorem Pp{n:Nat}{l:List Int}(h:Mg n l)(hl:l.length=n):bg l n=true:=JG hl h.nd h.bd
theorem Pq{π:List Int}{n k:Nat}(hk:k<π.length)(h:π[k]<0∨(n:Int)≤π[k]):bg π n=false:=by
 rw[Bool.eq_false_iff];intro hp;have:=jU hp hk;omega
theorem I6{π:List Int}{n k:Nat}(hk:k<π.length)(h:(π.take k).contains π[k]=true):bg π n=false:=by
 rw[Bool.eq_false_iff];intro hp;obtain⟨i,hi,e⟩:=List.getElem_of_mem (List.contains_iff_mem.1 h);rw[List.getElem_take]at e;rw[List.length_take]at hi;exact qK hp (show i<k by omega) hk e
def qj(W:World)(Bs:Nat)(l:List Int):Prop:=∃cs,Blk W Bs 276 cs∧cs.size=32∧∀t:Nat,t<32→cs[t]?=some (.bool (l.contains (t:Int)))
theorem qj.lt{W:World}{Bs:Nat}{l:List Int}(h:qj W Bs l):Bs<W.heap.size:=by
 obtain⟨cs,h1,_⟩:=h;exact h1.lt
theorem qj.cell{W:World}{Bs:Nat}{l:List Int}(h:qj W Bs l)(t:Nat)(ht:t<32):W.cell? ⟨Bs,t,none⟩=some (.bool (l.contains (t:Int)))∧W.frozen? ⟨Bs,t,none⟩=false:=by
 obtain⟨cs,h1,h2,h3⟩:=h;exact⟨(h1.cell _).trans (h3 t ht),h1.frozen _⟩
theorem qj.store{W:World}{Bs:Nat}{l:List Int}(h:qj W Bs l)(t:Nat)(ht:t<32):qj (W.setCell ⟨Bs,t,none⟩ (.bool true)) Bs (l++[(t:Int)]):=by
 obtain⟨cs,h1,h2,h3⟩:=h;refine⟨_,h1.aM _ _,by simpa using h2,fun u hu=> ?_⟩;rw[Array.getElem?_setIfInBounds,List.contains_append];by_cases e:t=u
 ·subst e;rw[if_pos rfl,if_pos (by rw[h2];omega)];simp
 ·rw[if_neg e,h3 u hu];have:([(t:Int)].contains (u:Int))=false:=by
   rw[List.contains_cons,List.contains_nil,Bool.or_false,beq_eq_false_iff_ne];omega
  rw[this,Bool.or_false]
theorem Sn:(#[.bool false,.bool false,.bool false,.bool false,.bool false,.bool false,.bool false,.bool false,.bool false,.bool false,.bool false,.bool false,.bool false,.bool false,.bool false,.bool false,.bool false,.bool false,.bool false,.bool false,.bool false,.bool false,.bool false,.bool false,.bool false,.bool false,.bool false,.bool false,.bool false,.bool false,.bool false,.bool false]:Array Value)=Array.replicate 32 (.bool false):=rfl
theorem qj.new{W:World}{Bs:Nat}(h:Blk W Bs 276 (Array.replicate 32 (.bool false))):qj W Bs []:=
 ⟨_,h,by simp,fun t ht=>by rw[List.contains_nil];simp[ht]⟩
set_option maxRecDepth 100000 in
theorem FV(A:Option Addr)(c:Nat)(H:List Txn)(Ap:Option Addr)(cp:Nat)(π:List Int)(w:World)(h:aD w (Old w) (.slice A H.length c) H)(hn:aH H)(hπ:aP w (Old w) (.slice Ap π.length cp) π)(hpl:π.length≤1000000):
 Calls Tryz.prog 155 #[.agg #[.slice A H.length c],.slice Ap π.length cp] w fun e w'=>e= .returned (.bool (gX H π))∧Below w.heap.size w w':=by
 obtain⟨W0,hW0⟩:∃W0,w.alloc (.cells #[.slice A H.length c] 24)=W0:=⟨_,rfl⟩;have hB:=ah (Below.refl w.heap.size w) hW0 (Nat.le_refl _);have k0:=Blk.newEq hW0;have h0:=hide (h.below hB);have hdef:Hid (gX H π=(ay H&&bg π H.length)):=hide rfl;have hne:=hide (fun(e:π.length≠H.length)=>(by unfold bg;rw[decide_eq_false e,Bool.false_and]:bg π H.length=false));have Pt:=hide (fun(e:π.length=H.length) (g:Mg H.length π)=>Pp g e);have hout:=hide (fun k (hk:k<π.length) e=>Pq (n:=H.length) hk e);have htw:=hide (fun k (hk:k<π.length) e=>I6 (n:=H.length) hk e);replace hn:=hide hn;replace h:=hide h;replace hπ:=hide hπ;have c0:=Blk.n0 k0;go_enter Tryz.func155,Tryz.ntmps155;go_wp2_with fail;clear hW0 c0;refine(dL A c H _ h0.out hn.out).mono ?_;rintro e w1 ⟨rfl,hb1⟩;have hb:=hB.trans (hb1.mono hB.size);replace k0:=k0.below hb1 k0.lt;clear hb1 hB h0;cases hr:ay H with
 |false=>
  have hx:Hid (gX H π=false):=hide (by rw[hdef.out,hr];rfl);clear hr hdef hne Pt hout htw;go_wp2;go_ret;exact⟨aV hx.out.symm,hb⟩
 |true=>
  have h32:H.length≤32:=((aB H).1 hr).1;have hdx:Hid (gX H π=bg π H.length):=hide (by rw[hdef.out,hr];rfl);have c0:=Blk.n0 k0;clear hdef hr;by_cases hlen:π.length=H.length
  ·have hz1:((π.length:Int) !=(H.length:Int))=false:=(by rw[hlen];exact bne_self_eq_false _);replace Pt:=hide (Pt.out hlen);have Vx:π.length≤32:=(by omega);have hll:=hide hlen;clear hne hlen;go_upto_region 4 with fail;rw[Sn];obtain⟨W2,hW2⟩:∃W2,w1.alloc (.cells (Array.replicate 32 (.bool false)) 276)=W2:=⟨_,rfl⟩;rw[hW2];have hB2:=ah (Below.refl w1.heap.size w1) hW2 (Nat.le_refl _);have hs2:=qj.new (Blk.newEq hW2);have hb2:=hb.trans (hB2.mono hb.size);have hw1:=hb.size;clear hW2 hB2 hb k0 c0;generalize w1.heap.size=Bs at*;go_wp2_with fail;go_loopw [21] (fun s21 wr=>∃k:Nat,k≤π.length∧s21= .int .i64 k∧qj wr Bs (π.take k)∧Hid (Mg H.length (π.take k))∧Below w.heap.size w wr) (fun s21 _=>π.length-(intOf s21).toNat);case atStart=>exact⟨0,Nat.zero_le _,by go_num,by simpa using hs2,hide ⟨by simp,fun x hx=>by simp at hx⟩,hb2⟩
   case round=>
    clear hs2 hb2;obtain⟨k,hk,rfl,hs,ho,hb⟩:=hrel;have hk1:(0:Int)≤(k:Int):=Int.natCast_nonneg _;by_cases hlt:k<π.length
    ·have hi2:(k:Int)<(π.length:Int):=(by omega);obtain⟨b,off,rfl,hbK,d0'⟩:=hπ.out.at_ hlt;have d0:=(hb.cell (p:=⟨b,off+k,none⟩) hbK).trans d0';clear d0' hbK;have h1:=hide (hout.out k hlt);have h2:=hide (htw.out k hlt);have hsn:=hide (take_snoc' hlt);have hos:=hide (fun e0 e1 e2=>ho.out.snoc (x:=π[k]'hlt) e0 e1 e2);generalize π[k]=x at*;by_cases q1:x<0
     ·have q1b:decide (x<0)=true:=decide_eq_true q1;have hx:Hid (gX H π=false):=hide (by rw[hdx.out,h1.out (.inl q1)]);clear q1 h1 h2 hsn hos ho;go_wp2;go_ret;exact⟨aV hx.out.symm,hb⟩
     ·have q1b:decide (x<0)=false:=decide_eq_false q1;by_cases q2:(π.length:Int)≤x
      ·have q2b:decide (x≥(π.length:Int))=true:=decide_eq_true q2;have hx:Hid (gX H π=false):=hide (by rw[hdx.out,h1.out (.inr (by rw[←hll.out];exact q2))]);clear q1 q2 h1 h2 hsn hos ho;go_wp2;go_ret;exact⟨aV hx.out.symm,hb⟩
      ·have q2b:decide (x≥(π.length:Int))=false:=decide_eq_false q2;obtain⟨t,rfl⟩:∃t:Nat,x=t:=⟨x.toNat,by omega⟩;have q2c:decide (π.length≤t)=false:=decide_eq_false (by omega);have q1c:decide ((t:Int)<0)=false:=decide_eq_false (by omega);clear q2b q1b;have Ub:t<32:=(by omega);have hti:(t:Int)<32:=(by omega);have ht0:(0:Int)≤(t:Int):=Int.natCast_nonneg _;obtain⟨g1,g2⟩:=hs.cell t Ub;have hss:=hide (hs.store t Ub);rw[←hsn.out]at hss;have hlx:(t:Int)<(H.length:Int):=(by rw[←hll.out];omega);cases hc:(π.take k).contains (t:Int)with
       |true=>
        rw[hc]at g1;have hx:Hid (gX H π=false):=hide (by rw[hdx.out,h2.out hc]);clear q1 q2 h1 h2 hsn hos ho hc hss;go_wp2;go_ret;exact⟨aV hx.out.symm,hb⟩
       |false=>
        rw[hc]at g1;have ho2:=hos.out (by omega) hlx hc;rw[←hsn.out]at ho2;replace ho2:=hide ho2;have hb5:=hb.setCell (p:=⟨Bs,t,none⟩) hw1 (.bool true);clear q1 q2 h1 h2 hsn hos ho hc;go_wp2;go_roundw;case rel=>exact⟨k+1,by omega,by go_num,hss.out,ho2,hb5⟩
        case measure=>simp[intOf];omega
    ·obtain rfl:k=π.length:=(by omega);rw[List.take_length]at ho;have hx:Hid (gX H π=true):=hide (by rw[hdx.out,Pt.out ho.out]);go_wp2;go_ret;exact⟨aV hx.out.symm,hb⟩
  ·have hz1:((π.length:Int) !=(H.length:Int))=true:=bne_iff_ne.2 (by omega);have hx:Hid (gX H π=false):=hide (by rw[hdx.out,hne.out hlen]);clear hlen hne Pt hout htw;go_wp2;go_ret;exact⟨aV hx.out.symm,hb⟩
end Go.Proofs.YtfhnamomiaekdaaGreatDoor
namespace Go.Proofs.YtfhnamomiaekdaaGreatDoor
open Go.RowKit Go.Inq
set_option maxHeartbeats 1000000
theorem take_one:∀(x:It),∀u∈It.enc x,u.oneCell'=true:=by
 intro x u hu;simp[It.enc]at hu;rcases hu with rfl|rfl<;>rfl
theorem Sq:(Tryz.prog.info? 106).map (fun i=>(i.zero,i.size,i.bytes))=some (some (.agg #[.int .i64 0,.int .i64 0]),2,16):=by kernel_rfl
theorem QC:(Tryz.prog.info? 107).map (fun i=>(i.zero,i.size,i.bytes))=some (some (.slice none 0 0),1,24):=by kernel_rfl
def iQ(W:World)(Bl:Nat)(ty:TypeId)(n:Nat)(f:Int→Int):Prop:=∃cs,Blk W Bl ty cs∧cs.size=n∧∀κ:Nat,κ<n→cs[κ]?=some (.int .i64 (f (κ:Int)))
section
variable{W W':World}{Bl n B:Nat}{ty:TypeId}{f g:Int→Int}
theorem iQ.lt(h:iQ W Bl ty n f):Bl<W.heap.size:=by
 obtain⟨cs,h1,_⟩:=h;exact h1.lt
theorem iQ.cell(h:iQ W Bl ty n f)(κ:Nat)(hκ:κ<n):W.cell? ⟨Bl,κ,none⟩=some (.int .i64 (f (κ:Int)))∧W.frozen? ⟨Bl,κ,none⟩=false:=by
 obtain⟨cs,h1,h2,h3⟩:=h;exact⟨(h1.cell _).trans (h3 κ hκ),h1.frozen _⟩
theorem iQ.store(h:iQ W Bl ty n f)(κ:Nat)(hκ:κ<n)(x:Int):iQ (W.setCell ⟨Bl,κ,none⟩ (.int .i64 x)) Bl ty n fun k=>if k=(κ:Int)then x else f k:=by
 obtain⟨cs,h1,h2,h3⟩:=h;refine⟨_,h1.aM _ _,by simpa using h2,fun u hu=> ?_⟩;rw[Array.getElem?_setIfInBounds];dsimp only;by_cases e:κ=u
 ·subst e;rw[if_pos rfl,if_pos (by rw[h2];exact hκ),if_pos rfl]
 ·rw[if_neg e,if_neg (by omega)];exact h3 u hu
theorem iQ.below(h:iQ W Bl ty n f)(hb:Below B W W')(hB:Bl<B):iQ W' Bl ty n f:=by
 obtain⟨cs,h1,h2⟩:=h;exact⟨cs,h1.below hb hB,h2⟩
theorem iQ.agree(h:iQ W Bl ty n f)(hb:W'.heap[Bl]?=W.heap[Bl]?):iQ W' Bl ty n f:=by
 obtain⟨cs,h1,h2⟩:=h;exact⟨cs,hb.trans h1,h2⟩
theorem iQ.congr(h:iQ W Bl ty n f)(he:∀κ,f κ=g κ):iQ W Bl ty n g:=by
 obtain⟨cs,h1,h2,h3⟩:=h;exact⟨cs,h1,h2,fun κ hκ=>by rw[h3 κ hκ,he]⟩
theorem iQ.new(h:Blk W Bl ty (Array.replicate n (.int .i64 0))):iQ W Bl ty n fun _=>0:=⟨_,h,by simp,fun κ hκ=>by simp[hκ]⟩
end
def fD(W:World)(base Bo n:Nat)(L:Nat→List It):Prop:=∃cs,Blk W Bo 107 cs∧cs.size=n∧∀t,t<n→∃A c,cs[t]?=some (.slice A (L t).length c)∧ItS W (TyK base [106] W) (.slice A (L t).length c) (L t)
section
variable{W W':World}{base Bo n B:Nat}{L L':Nat→List It}
theorem fD.new(h:Blk W Bo 107 (Array.replicate n (.slice none 0 0))):fD W base Bo n fun _=>[]:=⟨_,h,by simp,fun t ht=>⟨none,0,by simp[ht],SlR.nil _ _ _ _ _ _⟩⟩
theorem fD.below(h:fD W base Bo n L)(hb:Below W.heap.size W W'):fD W' base Bo n L:=by
 obtain⟨cs,h1,h2,h3⟩:=h;refine⟨cs,h1.below hb h1.lt,h2,fun t ht=> ?_⟩;obtain⟨A,c,h4,h5⟩:=h3 t ht;exact⟨A,c,h4,SlR.keep (Flat.aO _) h5 (TyK.below hb (Nat.le_refl _)) fun _ g=>TyK.step (TyK.below hb (Nat.le_refl _)) g⟩
theorem fD.congr(h:fD W base Bo n L)(he:∀t,t<n→L t=L' t):fD W base Bo n L':=by
 obtain⟨cs,h1,h2,h3⟩:=h;exact⟨cs,h1,h2,fun t ht=>by rw[←he t ht];exact h3 t ht⟩
theorem fD.at_(h:fD W base Bo n L){t:Nat}(ht:t<n):∃A c,W.cell? ⟨Bo,t,none⟩=some (.slice A (L t).length c)∧ItS W (Old W) (.slice A (L t).length c) (L t):=by
 obtain⟨cs,h1,h2,h3⟩:=h;obtain⟨A,c,h4,h5⟩:=h3 t ht;exact⟨A,c,(h1.cell _).trans h4,SlR.fit (Flat.aO _) h5 fun _ g=>g.lt⟩
end
theorem fD.key{W:World}{base Bo n Bl m:Nat}{ty:TypeId}{f:Int→Int}{L:Nat→List It}(h:fD W base Bo n L)(hk:iQ W Bl ty m f)(ht:ty≠106)(hne:Bo≠Bl)(κ:Nat)(v:Value):fD (W.setCell ⟨Bl,κ,none⟩ v) base Bo n L:=by
 obtain⟨cs,h1,h2,h3⟩:=h;obtain⟨ck,k1,_⟩:=hk;refine⟨cs,h1.far hne v,h2,fun t ht'=> ?_⟩;obtain⟨A,c,h4,h5⟩:=h3 t ht';have ha:Agree (TyK base [106] W) W (W.setCell ⟨Bl,κ,none⟩ v):=TyK.aM k1 (by simpa using ht) v;exact⟨A,c,h4,SlR.keep (Flat.aO _) h5 ha fun _ g=>TyK.step ha g⟩
def kU(Ws W:World)(base Bo n t:Nat)(L:Nat→List It)(v:Value)(l:List It):Prop:=
 (∃cs:Array Value,(cs.size=n∧Blk Ws Bo 107 cs)∧Blk W Bo 107 (cs.setIfInBounds t v)∧∀u,u<n→u≠t→∃A c,cs[u]?=some (.slice A (L u).length c)∧ItS Ws (TyK base [106] Ws) (.slice A (L u).length c) (L u))∧
 Agree (TyK base [106] Ws) Ws W∧W.ownsRow Ws.heap.size 106 2 v l.length (l.map It.enc).flatten∧base≤Ws.heap.size∧Ws.heap.size≤W.heap.size
theorem fD.start{W:World}{base Bo n t:Nat}{L:Nat→List It}(h:fD W base Bo n L)(ht:t<n)(he:W.cell? ⟨Bo,t,none⟩=some (.slice none 0 0))(hb:base≤W.heap.size):kU W W base Bo n t L (.slice none 0 0) []:=by
 obtain⟨cs,h1,h2,h3⟩:=h;refine⟨⟨cs,⟨h2,h1⟩,?_,fun u hu _=>h3 u hu⟩,Agree.refl _ _,World.ownsRow_nil _ _ _ _,hb,Nat.le_refl _⟩;have hc:cs[t]?=some (.slice none 0 0):=(h1.cell t).symm.trans he;have:cs.setIfInBounds t (.slice none 0 0)=cs:=by
  refine Array.ext_getElem? fun i=> ?_;rw[Array.getElem?_setIfInBounds];by_cases e:t=i
  ·subst e;rw[if_pos rfl,if_pos (by omega),hc]
  ·rw[if_neg e]
 rw[this];exact h1
theorem kU.done{Ws W:World}{base Bo n t:Nat}{L:Nat→List It}{v:Value}{l:List It}(h:kU Ws W base Bo n t L v l)(ht:t<n):fD W base Bo n fun u=>if u=t then l else L u:=by
 obtain⟨⟨cs,⟨h1,h0⟩,h2,h3⟩,h4,h5,h6,h7⟩:=h;refine⟨_,h2,by simpa using h1,fun u hu=> ?_⟩;rw[Array.getElem?_setIfInBounds];by_cases e:t=u
 ·subst e;rw[if_pos rfl,if_pos (by omega)];obtain⟨A,c,rfl⟩:=aU h5;simp only[if_true];exact⟨A,c,rfl,C8 (bH h5 h6) (fun _=>rfl) (by simp)⟩
 ·rw[if_neg e];dsimp only;rw[if_neg (show¬u=t from fun h=>e h.symm)];obtain⟨A,c,g1,g2⟩:=h3 u hu (fun h=>e h.symm);exact⟨A,c,g1,SlR.keep (Flat.aO _) g2 h4 fun _ g=>TyK.step h4 g⟩
theorem kU.cell{Ws W:World}{base Bo n t:Nat}{L:Nat→List It}{v:Value}{l:List It}(h:kU Ws W base Bo n t L v l)(ht:t<n):W.cell? ⟨Bo,t,none⟩=some v∧W.frozen? ⟨Bo,t,none⟩=false∧∃cs,Blk W Bo 107 cs:=by
 obtain⟨⟨cs,⟨h1,h0⟩,h2,h3⟩,_⟩:=h;refine⟨(h2.cell t).trans ?_,h2.frozen _,_,h2⟩;rw[Array.getElem?_setIfInBounds,if_pos rfl,if_pos (by omega)]
theorem kU.other{Ws W:World}{base Bo n t:Nat}{L:Nat→List It}{v:Value}{l:List It}(h:kU Ws W base Bo n t L v l){u:Nat}(hu:u≠t):W.cell? ⟨Bo,u,none⟩=Ws.cell? ⟨Bo,u,none⟩:=by
 obtain⟨⟨cs,⟨h1,h0⟩,h2,h3⟩,_⟩:=h;rw[h2.cell,h0.cell,Array.getElem?_setIfInBounds,if_neg (fun e=>hu e.symm)]
theorem kU.below{Ws W W':World}{base Bo n t:Nat}{L:Nat→List It}{v:Value}{l:List It}(h:kU Ws W base Bo n t L v l)(hb:Below W.heap.size W W'):kU Ws W' base Bo n t L v l:=by
 obtain⟨⟨cs,h1,h2,h3⟩,h4,h5,h6,h7⟩:=h;exact⟨⟨cs,h1,h2.below hb h2.lt,h3⟩,h4.trans (Agree.below hb fun b g=>by have:=g.lt;omega),own_below h5 hb (Nat.le_refl _),h6,Nat.le_trans h7 hb.size⟩
theorem kU.push{Ws W W':World}{base Bo n t:Nat}{L:Nat→List It}{v v':Value}{l l':List It}(h:kU Ws W base Bo n t L v l)(hg:W.grownBy W' v.ownBlock)(ho:W'.ownsRow Ws.heap.size 106 2 v' l'.length (l'.map It.enc).flatten):
 kU Ws (W'.setCell ⟨Bo,t,none⟩ v') base Bo n t L v' l':=by
 obtain⟨⟨cs,h1,h2,h3⟩,h4,h5,h6,h7⟩:=h;have hv:∀g,v.ownBlock=some g→Ws.heap.size≤g:=fun g e=>(h5.lt g e).1;have hne:some Bo≠v.ownBlock:=fun e=>by
  obtain⟨cs',h9⟩:=lI h5 e.symm;have:=h2.symm.trans h9;simp at this
 have hk:=h2.grown hg hne;have hk2:=hk.aM t v';have hA:Agree (TyK base [106] Ws) Ws W':=h4.trans (Agree.grown hg fun b g=>⟨by have:=g.lt;omega,fun e=>by have:=hv b e.symm;have:=g.lt;omega⟩);have hoff:¬TyK base [106] Ws Bo:=fun g=>by
  have h8:=TyK.step hA g;exact TyK.off hk (by decide) h8
 refine⟨⟨cs,h1,?_,h3⟩,hA.trans (Agree.setCell ⟨Bo,t,none⟩ hoff v'),?_,h6,by have:=hg.size;simp;omega⟩
 ·have:(cs.setIfInBounds t v).setIfInBounds t v'=cs.setIfInBounds t v':=by
   refine Array.ext_getElem? fun i=> ?_;simp only[Array.getElem?_setIfInBounds,Array.size_setIfInBounds];split<;>rfl
  rw[←this];exact hk2
 ·exact DN ho (p:=⟨Bo,t,none⟩) (fun e=>by
   obtain⟨cs',h9⟩:=lI ho e;have:=hk.symm.trans h9;simp at this) v'
end Go.Proofs.YtfhnamomiaekdaaGreatDoor
