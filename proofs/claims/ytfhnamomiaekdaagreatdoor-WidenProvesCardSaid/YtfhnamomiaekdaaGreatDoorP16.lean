/-
  Walks: layer 30: what can come next.
-/
import Derived.Test.YtfhnamomiaekdaaGreatDoorP12
import Derived.Test.YtfhnamomiaekdaaGreatDoorP13
import Derived.Test.YtfhnamomiaekdaaGreatDoorP15
set_option linter.unusedVariables false
set_option linter.unusedSimpArgs false
namespace Go.Proofs.YtfhnamomiaekdaaGreatDoor
open Go.RowKit Go.Inq
set_option maxHeartbeats 1000000
attribute [local go_sem↓] Go.wp_at_zero Go.wp_at_succ
def zf(w:World)(H:List Txn)(tp B:Nat)(s:Wd)(vp vl0:Value)(K:Nat→Prop)(e:Ending)(w':World):Prop:=
 ∃vl,e= .returned (.tuple #[])∧Blk w' tp 84 #[.int .i64 (jU H s).width,.bool (jU H s).cut,vp,vl]∧dw w' (fun b=>(b≠tp∧b<w'.heap.size)∧(K b∨w.heap.size≤b∨some b=vl0.ownBlock)) vl (jU H s).left∧(∀b,b<w.heap.size→b≠tp→some b≠vl0.ownBlock→w'.heap[b]?=w.heap[b]?)∧Below B w w'
set_option maxRecDepth 100000 in
theorem uS (A:Option Addr) (c:Nat) (H:List Txn) (tp B:Nat) (s:Wd) (Ap:Option Addr) (cp:Nat) (vl:Value) (K:Nat→Prop) (w:World) (h:aA w K (.slice A H.length c) H) (hn:aG H) (hr:ay H=true) (hTB:jB w)
 (ktp:Blk w tp 84 #[.int .i64 s.width,.bool s.cut,.slice Ap s.path.length cp,vl]) (hP:aB w K (.slice Ap s.path.length cp) s.path) (hL:bA 1 dP w K B 33 vl s.left)
 (hK:∀b,K b→b<w.heap.size∧b≠tp∧some b≠vl.ownBlock) (hB:B≤tp) (hvl:vl.ownBlock≠some tp) (hpl:s.path.length≤1000000000) (hll:s.left.length≤1000000000) (hw1:1≤s.width) (hw2:s.width≤32):
 Calls Tryz.prog 106 #[.pointer (some ⟨tp,0,none⟩),.agg #[.slice A H.length c]] w (zf w H tp B s (.slice Ap s.path.length cp) vl K):=by
 obtain⟨ii,hii,hi1,hi2,hi3⟩:=info_parts dO;obtain⟨is,his,hs1,hs2,hs3⟩:=info_parts EX;have h32:H.length≤32:=((aC H).1 hr).1;obtain⟨Al,cl,rfl⟩:=hL.form;obtain⟨W0,hW0⟩:∃W0,w.alloc (.cells #[.slice A H.length c] 24)=W0:=⟨_,rfl⟩;have hb:=ah (Below.refl w.heap.size w) hW0 (Nat.le_refl _);have k0:=Blk.newEq hW0;have hT:=hide (aA.keep (K':=Old W0) h (Agree.below hb fun b hb=>(hK b hb).1) (fun b hh=>by have:=(hK b hh).1;have:=hb.size;unfold Old;omega));have c0:=Blk.n0 k0;replace hn:=hide hn;replace hr:=hide hr;have hs0:=hide (aD hW0);go_enter Tryz.func106,Tryz.ntmps106;go_wp2_with fail;clear hW0 c0;refine(uR A c H _ hT.out hn.out hr.out).mono ?_;rintro e w1 ⟨g1,hg1,rfl,kR1,hb1⟩;replace k0:=k0.below hb1 k0.lt;replace hb:=hb.trans (hb1.mono hb.size);clear hb1 hT;go_wp2_with fail;refine(uO H.length _ _ (bq H) (Old w1) _ (GrS.bW kR1 kR1.lt (by omega)) (fun b h=>h) (hTB.below hb)).mono ?_;rintro e w2 ⟨g,hg,rfl,kR,hb2⟩;replace k0:=k0.below hb2 k0.lt;have hgw:=hb.size;replace hb:=hb.trans (hb2.mono hb.size);clear hb2 kR1;obtain⟨W3,hW3⟩:∃W3,w2.alloc (.cells #[.int .i64 H.length,.slice (some ⟨g,0,none⟩) H.length H.length] 77)=W3:=⟨_,rfl⟩;have kG:=Blk.newEq hW3;replace k0:=k0.av hW3;replace kR:=kR.av hW3;have NT:=aD hW3;have QT:=hb.size;replace hb:=ah hb hW3 hb.size;have c0:=Blk.n0 k0;have QU:=hide NT;clear NT;have hgB:=hide hg;clear hg hg1;go_wp2_with fail;clear hW3 c0;go_loopw [6,19] (fun s6 s19 wr=>∃k:Nat,k≤H.length∧s19= .int .i64 k∧bE wr W3.heap.size s6 (mP H s.path k)∧Below W3.heap.size W3 wr) (fun _ s19 _=>H.length-(intOf s19).toNat);case atStart=>exact⟨0,Nat.zero_le _,by go_num,bE.nil _ _,Below.refl _ _⟩
 case round=>
  obtain⟨Wo,rfl⟩:∃Wo,Wo=wr:=⟨_,rfl⟩;obtain⟨k,hk,rfl,hown,hbr⟩:=hrel;have hk1:(0:Int)≤(k:Int):=Int.natCast_nonneg _;have hbF:=hb.trans (hbr.mono hb.size);have mtp:=ktp.below hbF ktp.lt;have m0:=k0.below hbr k0.lt;have mG:=kG.below hbr kG.lt;have mR:=kR.below hbr kR.lt;have hPr:=hide (hP.keep (Agree.below hbF fun b hb=>(hK b hb).1) (fun b h=>h));have c2:=Blk.n2 mtp;have c0:=Blk.n0 m0;by_cases hlt:k<H.length
  ·have hki:(k:Int)<(H.length:Int):=(by omega);have hcon:=hide (fun W z (hq:aB W K (.slice Ap s.path.length cp) s.path)=>bZ Ap cp s.path z K W hq (by unfold maxLen;omega));have hz:=hide (Ag H s.path k);have hst:=hide (Ai H s.path k);have hln:=uL H s.path k;have KT:=hbr.size;generalize hCk:mP H s.path k=L at*;replace hCk:=hide hCk;replace hown:=hide hown;go_wp2_with fail;refine(hcon.out _ _ hPr.out).mono ?_;rintro e W4 ⟨rfl,rfl⟩;go_wp2_with fail;clear c0 c2;go_loopw [8,32] (fun s8 s32 wq=>∃j:Nat,j≤H.length∧s32= .int .i64 j∧s8= .bool (gX H s.path k j)∧Below Wo.heap.size Wo wq) (fun _ s32 _=>H.length-(intOf s32).toNat);case atStart=>exact⟨0,Nat.zero_le _,by go_num,by rw[hz.out];simp,Below.refl _ _⟩
   case round=>
    obtain⟨j,hj,rfl,rfl,hbq⟩:=hrel;have hj1:(0:Int)≤(j:Int):=Int.natCast_nonneg _;by_cases hjl:j<H.length
    ·have hj2:(j:Int)<(H.length:Int):=(by omega);have hfs:=hide (Ah H s.path k j);have hE:=hide (Jm (E:=dZ (bq H)) hlt hjl);have hbQ:=hbF.trans (hbq.mono hbF.size);have nG:=mG.below hbq mG.lt;have nR:=mR.below hbq mR.lt;have ntp:=mtp.below hbq mtp.lt;have d0:=Blk.n0 nG;have d1:=Blk.n1 nG;have hcall:=hide (F9 H.length (some ⟨g,0,none⟩) H.length (dZ (bq H)) k j (Old wr) wr (GrS.bW nR nR.lt (by omega)) (fun b h=>h));generalize hfr:gX H s.path k j=fr at*;cases fr with
     |false=>
      have hn0:Hid (gX H s.path k (j+1)=false):=hide (by rw[hfs.out];rfl);clear hfs hE hfr;go_wp2;go_roundw;case rel=>exact⟨j+1,by omega,by go_num,by rw[hn0.out],hbq⟩
      case measure=>simp[intOf];omega
     |true=>
      rw[hE.out]at hcall;have hn0:Hid (gX H s.path k (j+1)=(!dZ (bq H) k j||s.path.contains (j:Int))):=hide (by rw[hfs.out];rfl);clear hfs hE hfr;generalize dZ (bq H) k j=hv at*;go_wp2_with fail;refine hcall.out.mono ?_;rintro e W5 ⟨rfl,hb5⟩;have MH:=hbq.trans (hb5.mono hbq.size);have hPq:=hide (hPr.out.keep (Agree.below (MH.mono hbF.size) fun b hb=>(hK b hb).1) (fun b h=>h));have Px:=ntp.below hb5 ntp.lt;have c2:=Blk.n2 Px;clear hcall hb5 hbq hbQ d0 d1 nG nR ntp;cases hv with
      |false=>
       go_wp2;go_roundw;case rel=>exact⟨j+1,by omega,by go_num,by rw[hn0.out];rfl,MH⟩
       case measure=>simp[intOf];omega
      |true=>
       go_wp2_with fail;refine(hcon.out _ _ hPq.out).mono ?_;rintro e W6 ⟨rfl,rfl⟩;go_wp2;go_roundw;case rel=>exact⟨j+1,by omega,by go_num,by rw[hn0.out];simp,MH⟩
       case measure=>simp[intOf];omega
    ·obtain rfl:j=H.length:=(by omega);have hbQ:=hbF.trans (hbq.mono hbF.size);have hown5:bE wr W3.heap.size u6 L:=own_below hown.out hbq (Nat.le_refl _);have hbR:=hbr.trans (hbq.mono hbr.size);clear mtp m0 mG mR hPr hcon hz;obtain⟨As,cs,rfl⟩:=hown5.form;cases hfr:gX H s.path k H.length with
     |false=>
      rw[hfr]at hst;replace hfr:=hide hfr;go_wp2;go_roundw;case rel=>exact⟨k+1,by omega,by go_num,by rw[hst.out];simpa using hown5,hbR⟩
      case measure=>simp[intOf];omega
     |true=>
      rw[hfr]at hst;replace hfr:=hide hfr;have hkD:L.length+1≤maxLen:=(by unfold maxLen;omega);go_wp2_with (at_builtin;go_loud (refine aY (enc:=Go.Inq.encI) rfl (.tmp 53) (.tmp 55) 33 rfl W3.heap.size 3 ii _ 1 8 Tryz.underlying33 hii hi1 hi2 hi3 rfl (by decide) (.slice As L.length cs) L rfl hown5 (fun _=>rfl) (k:Int) _ rfl rfl Go.Inq.eG hkD (by omega) hbR.size W3 W3.heap.size (Nat.le_refl _) hbR ?_);intro v1 w6 hown1 hg1 hb1 l5);go_roundw;case rel=>exact⟨k+1,by omega,by go_num,by rw[hst.out,if_pos rfl];exact hown1,hb1⟩
      case measure=>simp[intOf];omega
  ·obtain rfl:k=H.length:=(by omega);rw[Dk]at hown;have hLn:(jG H s.path).length≤H.length:=uL H s.path H.length;have hput:jU H s={s with cut:=s.cut||decide (s.width<((jG H s.path).length:Int)),left:=s.left++[(jG H s.path).take s.width.toNat]}:=rfl;generalize jG H s.path=L at*;obtain⟨As,cs,rfl⟩:=hown.form;obtain⟨width,cut,path,left⟩:=s;dsimp only at*;obtain⟨m,rfl⟩:∃m:Nat,width=m:=⟨width.toNat,by omega⟩;have hLS:=hown.sl (K:=fun b=>W3.heap.size≤b∧b<Wo.heap.size) (fun g h1 h2=>⟨h1,h2⟩);have c0':=Blk.n0 mtp;have c1':=Blk.n1 mtp;have c3':=Blk.n3 mtp;have f1':=mtp.frozen 1;have f3':=mtp.frozen 3;have htake:(L.take m).length≤cs:=by
    obtain⟨_,_,hq,hq2⟩:=SlR.len hLS;injection hq with q1 q2 q3
    rw[List.length_take];omega
   have hLc:L.length≤cs:=by
    obtain⟨_,_,hq,hq2⟩:=SlR.len hLS;injection hq with q1 q2 q3
    omega
   rw[Int.toNat_natCast]at hput;replace hput:=hide hput;have hWs:=hbr.size;have hw3:=hb.size;have QV:=ktp.lt;have NU:left.length+1≤maxLen:=(by unfold maxLen;omega);replace hown:=hide hown;by_cases hlw:(m:Int)<(L.length:Int)
   ·have Py:decide ((L.length:Int)>(m:Int))=true:=(by simpa using hlw);have hmL:m≤L.length:=(by omega);have hmc:m≤cs:=(by omega);have kX:=mtp.aK 1 (.bool true);simp only[sA,sZ,sS]at kX;have hXa:∀b,b≠tp→(Wo.setCell ⟨tp,1,none⟩ (.bool true)).heap[b]?=Wo.heap[b]?:=fun b hb=>Below.heap_setCell Wo ⟨tp,1,none⟩ _ b hb;have hXB:Below B w (Wo.setCell ⟨tp,1,none⟩ (.bool true)):=(hbF.mono (by omega)).setCell (p:=⟨tp,1,none⟩) hB _;have hXs:(Wo.setCell ⟨tp,1,none⟩ (.bool true)).heap.size=Wo.heap.size:=(by simp);have hlt2:(L.take m).length=m:=(by rw[List.length_take];omega);have hrow:=aB.take hLS hmL;have hcut:(cut||decide ((m:Int)<(L.length:Int)))=true:=(by simp[hlw]);rw[hcut]at hput;generalize hXe:Wo.setCell ⟨tp,1,none⟩ (.bool true)=X at*;have hXK:∀b,K b→X.heap[b]?=w.heap[b]?:=fun b hb=>(hXa b (hK b hb).2.1).trans (hbF.block b (hK b hb).1);obtain⟨Wc,hWc⟩:∃Wc,X.alloc (.cells #[.slice As (m) cs] 33)=Wc:=⟨_,rfl⟩;have JB:=Blk.newEq hWc;have sWc:=aD hWc;have kT:=kX.av hWc;rw[hXs]at JB sWc;have MI:B≤X.heap.size:=(by omega);have hA1:Agree K w Wc:=fun b hb=>((Agree.av (K:=K) hWc (fun b hb=>by have:=(hK b hb).1;omega)) b hb).trans (hXK b hb);have hlb:=hL.lt;have hOw:bA 1 dP Wc (fun b=>K b∨(W3.heap.size≤b∧b<Wo.heap.size+1)) B 33 (.slice Al left.length cl) left:=hL.keep dP.bf hA1 (fun b h=> .inl h) (fun g hg=>by
     have h1:=(hlb g hg).2;have h2:g≠tp:=(by rintro rfl;exact hvl hg);exact(Agree.av (K:=fun b=>b=g) hWc (fun b hb=>by omega) g rfl).trans ((hXa g h2).trans (hbF.block g h1)))
    have JC:aB Wc (fun b=>K b∨(W3.heap.size≤b∧b<Wo.heap.size+1)) (.slice As (m) cs) (L.take m):=hrow.keep (fun b hb=>(Agree.av (K:=fun b=>W3.heap.size≤b∧b<Wo.heap.size) hWc (fun b hb=>by omega) b hb).trans (hXa b (by omega))) (fun b hb=> .inr (by omega));have hsrc:SlR 1 dP Wc (fun b=>K b∨(W3.heap.size≤b∧b<Wo.heap.size+1)) (.slice (some ⟨Wo.heap.size,0,none⟩) 1 1) [L.take m]:=SlR.one JB rfl ⟨_,rfl,JC⟩ (.inr (by omega));have hAr:∀w',Wc.grownBy w' (Value.slice Al left.length cl).ownBlock→∀cs x,dP Wc (fun b=>K b∨(W3.heap.size≤b∧b<Wo.heap.size+1)) cs x→dP w' (fun b=>K b∨(W3.heap.size≤b∧b<Wo.heap.size+1)) cs x:=fun w' hg cs x hR=>dP.bf _ _ _ _ _ _ hR (Agree.grown hg fun b hb=>by
     rcases hb with hb|hb
     ·have:=hK b hb;exact⟨by omega,this.2.2⟩
     ·refine⟨by omega,fun e=> ?_⟩;have:=(hlb b e.symm).2;omega) (fun _ h=>h)
    have hbs:B≤Wc.heap.size:=(by omega);have hBc:=ah hXB hWc MI;have t3:=Blk.n3 kT;have x3:=Blk.n3 kX;have hhb:(left.length+1)*24≤140737488355328:=(by omega);have hcl:=(hown.out.sl (K:=Old Wo) (fun g _ h=>h));clear hcl;have hXW:=hide (fun b (h1:b<w.heap.size) (h2:b≠tp)=>(hXa b h2).trans (hbF.block b h1));replace hput:=hide hput.out;subst hXe;go_wp2_with (at_builtin;go_loud (refine fI (R:=dP) rfl (.tmp 78) (.tmp 80) 82 rfl B 33 is _ 1 24 Tryz.underlying82 his hs1 hs2 hs3 rfl (by decide) (.slice Al left.length cl) _ left rfl hOw _ [L.take m] rfl hsrc (fun cs x h=>dP.one h) NU hhb hbs hAr ?_);intro v1 w6 hO6 hg6 JD;obtain⟨A6,c6,rfl⟩:=hO6.form;have k6:=kT.grown hg6 (fun e=>hvl e.symm);have g3:=k6.cell 3;have gf:=k6.frozen 3;simp only[gA,gZ,gS]at g3)
    go_end0
    unfold zf;rw[hput.out];dsimp only;have k7:=k6.aK 3 (.slice A6 (left.length+1) c6);simp only[sA,sZ,sS]at k7;have h6s:=hg6.size;have MJ:(Value.slice A6 (left.length+1) c6).ownBlock≠some tp:=by
     intro e;have e':(Value.slice A6 (left++[L.take m]).length c6).ownBlock=some tp:=(by rw[List.length_append];exact e);rcases JD with h|h
     ·rw[h]at e';exact hvl e'
     ·rw[h]at e';injection e' with e';omega
    have hl6:=hO6.lt;have hO7:bA 1 dP w6 (fun b=>(b≠tp∧b<w6.heap.size)∧(K b∨w.heap.size≤b∨some b=(Value.slice Al left.length cl).ownBlock)) B 33 (.slice A6 (left.length+1) c6) (left++[L.take m]):=by
     have:=hO6.keep dP.bf (Agree.refl _ _) (K':=fun b=>(b≠tp∧b<w6.heap.size)∧(K b∨w.heap.size≤b∨some b=(Value.slice Al left.length cl).ownBlock)) (fun b hb=>by
      rcases hb with hb|hb
      ·have:=hK b hb;exact⟨⟨this.2.1,by omega⟩,.inl hb⟩
      ·exact⟨⟨by omega,by omega⟩,.inr (.inl (by omega))⟩) (fun _ _=>rfl)
     rw[List.length_append]at this;exact this
    have hS7:=hO7.sl (fun g hg=>⟨⟨fun e=>MJ (by rw[hg,e]),(hl6 g (by rw[List.length_append];exact hg)).2⟩,by
     have hg':(Value.slice A6 (left++[L.take m]).length c6).ownBlock=some g:=(by rw[List.length_append];exact hg);rcases JD with h|h
     ·rw[h]at hg';exact .inr (.inr hg'.symm)
     ·rw[h]at hg';injection hg' with hg';exact .inr (.inl (by omega))⟩)
    refine⟨.slice A6 (left.length+1) c6,rfl,k7,SlR.keep dP.bf hS7 (Agree.setCell ⟨tp,3,none⟩ (fun h=>h.1.1 rfl) _) (fun b hb=>⟨⟨hb.1.1,by simp;exact hb.1.2⟩,hb.2⟩),(fun b h1 h2 h3=>(Below.heap_setCell w6 ⟨tp,3,none⟩ _ b h2).trans ((hg6.block b (by omega) h3).trans ((Agree.av (K:=fun x=>x=b) hWc (fun x hx=>by omega) b rfl).trans (hXW.out b h1 h2)))),(below_grown hBc hg6 hbs (fun k hk=>(hlb k hk).1)).setCell (p:=⟨tp,3,none⟩) hB _⟩
   ·have Py:decide ((L.length:Int)>(m:Int))=false:=(by simpa using hlw);have htk:L.take m=L:=List.take_of_length_le (by omega);rw[htk]at hput;have kX:=mtp;have hXa:∀b,b≠tp→Wo.heap[b]?=Wo.heap[b]?:=fun b hb=>rfl;have hXB:Below B w Wo:=hbF.mono (by omega);have hXs:Wo.heap.size=Wo.heap.size:=rfl;have hrow:=hLS;have hcut:(cut||decide ((m:Int)<(L.length:Int)))=cut:=(by simp[hlw]);rw[hcut]at hput;obtain⟨X,hXe⟩:∃X,Wo=X:=⟨_,rfl⟩;rw[hXe]at kX hXB;have hXa:∀b,b≠tp→X.heap[b]?=Wo.heap[b]?:=fun b hb=>(by rw[hXe]);have hXs:X.heap.size=Wo.heap.size:=(by rw[hXe]);have hXK:∀b,K b→X.heap[b]?=w.heap[b]?:=fun b hb=>(hXa b (hK b hb).2.1).trans (hbF.block b (hK b hb).1);obtain⟨Wc,hWc⟩:∃Wc,X.alloc (.cells #[.slice As (L.length) cs] 33)=Wc:=⟨_,rfl⟩;have JB:=Blk.newEq hWc;have sWc:=aD hWc;have kT:=kX.av hWc;rw[hXs]at JB sWc;have MI:B≤X.heap.size:=(by omega);have hA1:Agree K w Wc:=fun b hb=>((Agree.av (K:=K) hWc (fun b hb=>by have:=(hK b hb).1;omega)) b hb).trans (hXK b hb);have hlb:=hL.lt;have hOw:bA 1 dP Wc (fun b=>K b∨(W3.heap.size≤b∧b<Wo.heap.size+1)) B 33 (.slice Al left.length cl) left:=hL.keep dP.bf hA1 (fun b h=> .inl h) (fun g hg=>by
     have h1:=(hlb g hg).2;have h2:g≠tp:=(by rintro rfl;exact hvl hg);exact(Agree.av (K:=fun b=>b=g) hWc (fun b hb=>by omega) g rfl).trans ((hXa g h2).trans (hbF.block g h1)))
    have JC:aB Wc (fun b=>K b∨(W3.heap.size≤b∧b<Wo.heap.size+1)) (.slice As (L.length) cs) (L):=hrow.keep (fun b hb=>(Agree.av (K:=fun b=>W3.heap.size≤b∧b<Wo.heap.size) hWc (fun b hb=>by omega) b hb).trans (hXa b (by omega))) (fun b hb=> .inr (by omega));have hsrc:SlR 1 dP Wc (fun b=>K b∨(W3.heap.size≤b∧b<Wo.heap.size+1)) (.slice (some ⟨Wo.heap.size,0,none⟩) 1 1) [L]:=SlR.one JB rfl ⟨_,rfl,JC⟩ (.inr (by omega));have hAr:∀w',Wc.grownBy w' (Value.slice Al left.length cl).ownBlock→∀cs x,dP Wc (fun b=>K b∨(W3.heap.size≤b∧b<Wo.heap.size+1)) cs x→dP w' (fun b=>K b∨(W3.heap.size≤b∧b<Wo.heap.size+1)) cs x:=fun w' hg cs x hR=>dP.bf _ _ _ _ _ _ hR (Agree.grown hg fun b hb=>by
     rcases hb with hb|hb
     ·have:=hK b hb;exact⟨by omega,this.2.2⟩
     ·refine⟨by omega,fun e=> ?_⟩;have:=(hlb b e.symm).2;omega) (fun _ h=>h)
    have hbs:B≤Wc.heap.size:=(by omega);have hBc:=ah hXB hWc MI;have t3:=Blk.n3 kT;have x3:=Blk.n3 kX;have hhb:(left.length+1)*24≤140737488355328:=(by omega);have hcl:=(hown.out.sl (K:=Old Wo) (fun g _ h=>h));clear hcl;have hXW:=hide (fun b (h1:b<w.heap.size) (h2:b≠tp)=>(hXa b h2).trans (hbF.block b h1));replace hput:=hide hput.out;subst hXe;go_wp2_with (at_builtin;go_loud (refine fI (R:=dP) rfl (.tmp 78) (.tmp 80) 82 rfl B 33 is _ 1 24 Tryz.underlying82 his hs1 hs2 hs3 rfl (by decide) (.slice Al left.length cl) _ left rfl hOw _ [L] rfl hsrc (fun cs x h=>dP.one h) NU hhb hbs hAr ?_);intro v1 w6 hO6 hg6 JD;obtain⟨A6,c6,rfl⟩:=hO6.form;have k6:=kT.grown hg6 (fun e=>hvl e.symm);have g3:=k6.cell 3;have gf:=k6.frozen 3;simp only[gA,gZ,gS]at g3)
    go_end0
    unfold zf;rw[hput.out];dsimp only;have k7:=k6.aK 3 (.slice A6 (left.length+1) c6);simp only[sA,sZ,sS]at k7;have h6s:=hg6.size;have MJ:(Value.slice A6 (left.length+1) c6).ownBlock≠some tp:=by
     intro e;have e':(Value.slice A6 (left++[L]).length c6).ownBlock=some tp:=(by rw[List.length_append];exact e);rcases JD with h|h
     ·rw[h]at e';exact hvl e'
     ·rw[h]at e';injection e' with e';omega
    have hl6:=hO6.lt;have hO7:bA 1 dP w6 (fun b=>(b≠tp∧b<w6.heap.size)∧(K b∨w.heap.size≤b∨some b=(Value.slice Al left.length cl).ownBlock)) B 33 (.slice A6 (left.length+1) c6) (left++[L]):=by
     have:=hO6.keep dP.bf (Agree.refl _ _) (K':=fun b=>(b≠tp∧b<w6.heap.size)∧(K b∨w.heap.size≤b∨some b=(Value.slice Al left.length cl).ownBlock)) (fun b hb=>by
      rcases hb with hb|hb
      ·have:=hK b hb;exact⟨⟨this.2.1,by omega⟩,.inl hb⟩
      ·exact⟨⟨by omega,by omega⟩,.inr (.inl (by omega))⟩) (fun _ _=>rfl)
     rw[List.length_append]at this;exact this
    have hS7:=hO7.sl (fun g hg=>⟨⟨fun e=>MJ (by rw[hg,e]),(hl6 g (by rw[List.length_append];exact hg)).2⟩,by
     have hg':(Value.slice A6 (left++[L]).length c6).ownBlock=some g:=(by rw[List.length_append];exact hg);rcases JD with h|h
     ·rw[h]at hg';exact .inr (.inr hg'.symm)
     ·rw[h]at hg';injection hg' with hg';exact .inr (.inl (by omega))⟩)
    refine⟨.slice A6 (left.length+1) c6,rfl,k7,SlR.keep dP.bf hS7 (Agree.setCell ⟨tp,3,none⟩ (fun h=>h.1.1 rfl) _) (fun b hb=>⟨⟨hb.1.1,by simp;exact hb.1.2⟩,hb.2⟩),(fun b h1 h2 h3=>(Below.heap_setCell w6 ⟨tp,3,none⟩ _ b h2).trans ((hg6.block b (by omega) h3).trans ((Agree.av (K:=fun x=>x=b) hWc (fun x hx=>by omega) b rfl).trans (hXW.out b h1 h2)))),(below_grown hBc hg6 hbs (fun k hk=>(hlb k hk).1)).setCell (p:=⟨tp,3,none⟩) hB _⟩
end Go.Proofs.YtfhnamomiaekdaaGreatDoor
