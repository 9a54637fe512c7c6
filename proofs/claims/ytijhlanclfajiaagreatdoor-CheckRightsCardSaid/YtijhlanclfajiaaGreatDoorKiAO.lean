/-
  A part of the proof.
-/
import Derived.Test.YtijhlanclfajiaaGreatDoorKiAI
import Derived.Test.YtijhlanclfajiaaGreatDoorKiAH
import Derived.Deep.CutRange
import Derived.Test.YtijhlanclfajiaaGreatDoorKiAG
set_option linter.all false
set_option maxHeartbeats 32000000
set_option maxRecDepth 100000
namespace Go.Proofs.YtijhlanclfajiaaGreatDoor
open Go.RowKit
open Hg (EO putRow)
theorem WE:(Tryz.prog.info? 46).map (fun i=>(i.zero,i.size,i.bytes))=some (some (.agg #[.int .u64 0,.int .u8 0,.string ⟨#[]⟩,.int .i64 0,.int .u8 0,.int .u64 0,.slice none 0 0]),7,80):=by kernel_rfl
theorem KA(r:Hg.Row)(a:Option Addr)(n c:Nat):∀u∈Ap r (.slice a n c),u.oneCell'=true:=by
 intro u hu;simp only[Ap,List.mem_cons,List.not_mem_nil,or_false] at hu;rcases hu with rfl|rfl|rfl|rfl|rfl|rfl|rfl <;>rfl
def Np(w:World)(out:List Hg.Row)(ks:List Value):Prop:=
 ks.length=out.length∧∀(k:Nat) (r:Hg.Row) (kv:Value),out[k]? =some r→ks[k]? =some kv→Sl w w.heap.size kv r.node.kids.length (r.node.kids.map idV)
theorem Np.snoc{w:World}{out:List Hg.Row}{ks:List Value}(h:Np w out ks){r:Hg.Row}{kv:Value}(hk:Sl w w.heap.size kv r.node.kids.length (r.node.kids.map idV)):Np w (out++[r]) (ks++[kv]):=by
 refine⟨by simp[h.1],fun k r' kv' hr hv=> ?_⟩;by_cases e:k < out.length
 ·rw[List.getElem?_append_left e] at hr
  rw[List.getElem?_append_left (by rw[h.1];exact e)] at hv;exact h.2 k r' kv' hr hv
 ·have e2:k=out.length:=by
   have:=(Af.1 hr).1;simp at this;omega
  subst e2;simp at hr;rw[←h.1] at hv;simp at hv;subst hr;subst hv;exact hk
theorem JO{w W:World}{base:Nat}{v:Value}{out:List Hg.Row}{ks:List Value}(ho:W.ownsRow base 46 7 v out.length (Aa out ks))(hk:Np w out ks)(hb:Below w.heap.size w W):Aw W W.heap.size v out:=
 ⟨ks,hk.1,Sl.Ai ho,fun k r kv hr hv=>((hk.2 k r kv hr hv).below hb AA).more hb.size⟩
@[reducible] def ndW(n:Hg.Node)(ka:Option Addr)(kc:Nat):Value:= .agg #[.int .u8 (n.kind:Int),strV n.name,.int .i64 n.num,.int .u8 (n.type:Int),.int .u64 (n.ref:Int),.slice ka n.kids.length kc]
theorem I9{W:World}{base:Nat}{v:Value}{out:List Hg.Row}{ks:List Value}{r:Hg.Row}{kv:Value}(hk:ks.length=out.length)(h:W.ownsRow base 46 7 v (out.length+1) (Aa out ks++Ap r kv)):
 W.ownsRow base 46 7 v (out++[r]).length (Aa (out++[r]) (ks++[kv])):=by
 rw[FY out ks r kv hk,List.length_append];exact h
theorem Gh{w w1 w':World}{B:Nat}{o:Obj}{q:Option Nat}(hb:Below B w w1)(hB:B≤w1.heap.size)(hg:(w1.alloc o).grownBy w' q)(hq:∀j,q=some j→B≤j):Below B w w':=
 (hb.alloc hB o).trans ⟨hg.os,hg.tape,hg.output,hg.size,fun j hj=>hg.block j (by simp;omega) (fun e=>by have:=hq j e.symm;omega)⟩
def F8(w:World)(rows:List Hg.Row)(e:Ending)(w':World):Prop:=∃v,e= .returned v∧Aw w' w'.heap.size v rows∧Below w.heap.size w w'
theorem EP(v:Value)(l:List Hg.Row)(id:Nat)(nd:Hg.Node)(ka:Option Addr)(kc:Nat)(w:World)(hx:Aw w w.heap.size v l)(hs:Sl w w.heap.size (.slice ka nd.kids.length kc) nd.kids.length (nd.kids.map idV))(hl:l.length≤100000):
 Calls Tryz.prog 40 #[v,.int .u64 (id:Int),ndW nd ka kc] w (F8 w (putRow l id nd)):=by
 obtain⟨i0,hi,hz0,hz1,hz2⟩:=info_parts WE;obtain⟨a,c,rfl⟩:=hx.form;have HX:=zz hx;have HS:=zz hs;have hput:EO id nd l [] false=putRow l id nd:=rfl;generalize putRow l id nd=R at hput⊢;have HP:=zz hput;clear hx hs hput;go_enter Tryz.func40,Tryz.ntmps40;go_upto_region 3 with fail;have hBx:∀z,Below w.heap.size w (w.alloc (.cells z 44)):=fun z=>(AP).alloc AA _;have hbx:∀j u,[Value.int .u8 (nd.kind:Int),strV nd.name,.int .i64 nd.num,.int .u8 (nd.type:Int),.int .u64 (nd.ref:Int),.slice ka nd.kids.length kc][j]? =some u→(w.alloc (.cells #[.int .u8 (nd.kind:Int),strV nd.name,.int .i64 nd.num,.int .u8 (nd.type:Int),.int .u64 (nd.ref:Int),.slice ka nd.kids.length kc] 44)).cell? ⟨w.heap.size,j,none⟩=some u:=by
  intro j u hj;rw[AJ _ w.heap.size j _ 44 (0,0) (AZ w _)];simpa using hj
 have hB0:=hBx #[.int .u8 (nd.kind:Int),strV nd.name,.int .i64 nd.num,.int .u8 (nd.type:Int),.int .u64 (nd.ref:Int),.slice ka nd.kids.length kc];have hz:w.heap.size+1=(w.alloc (.cells #[.int .u8 (nd.kind:Int),strV nd.name,.int .i64 nd.num,.int .u8 (nd.type:Int),.int .u64 (nd.ref:Int),.slice ka nd.kids.length kc] 44)).heap.size:=by simp
 generalize World.alloc w _=W0 at hbx hB0 hz⊢;have HBX:=zz hbx;have HB0:=zz hB0;have HZ:=zz hz;clear hBx hbx hB0 hz;go_wp2
 go_loopw [7,8,13] (fun p q i wr=>∃(k:Nat) (out:List Hg.Row) (ks:List Value) (done:Bool),i= .int .i64 (k:Int)∧q= .bool done∧k≤l.length∧out.length≤2*k∧Np w out ks∧wr.ownsRow W0.heap.size 46 7 p out.length (Aa out ks)∧Below W0.heap.size W0 wr∧EO id nd (l.drop k) out done=R) (fun _ _ i wr=>l.length-(intOf i).toNat)
 case atStart=>exact⟨0,[],[],false,rfl,rfl,Nat.zero_le _,by simp,⟨rfl,fun k r kv hr=>by simp at hr⟩,World.ownsRow_nil _ _ _ _,AP,HP.out⟩
 case round=>
  obtain⟨k,out,ks,done,rfl,rfl,hk,hol,hki,hown,hb,hg⟩:=hrel;have HO:=zz hown;have HG:=zz hg;have HK:=zz hki;have HB:=zz hb;have hBW:=HB0.out.size;have hBR:=hb.size;clear hown hg hki hb HP;by_cases hlt:k < l.length
  ·obtain⟨r,hr⟩:∃r,l[k]? =some r:=⟨_,AX hlt⟩
   have hbw:Below w.heap.size w wr:=HB0.out.trans (HB.out.mono HB0.out.size);obtain⟨b,o,kr,cr,rfl,hbl,hks,r0,r1,r2,r3,r4,r5,r6⟩:=HX.out.at_ hr;have e0:=(hbw.cell (p:=⟨b,o+k*7,none⟩) hbl).trans r0;have e1:=(hbw.cell (p:=⟨b,o+k*7+1,none⟩) hbl).trans r1;have e2:=(hbw.cell (p:=⟨b,o+k*7+2,none⟩) hbl).trans r2;have e3:=(hbw.cell (p:=⟨b,o+k*7+3,none⟩) hbl).trans r3;have e4:=(hbw.cell (p:=⟨b,o+k*7+4,none⟩) hbl).trans r4;have e5:=(hbw.cell (p:=⟨b,o+k*7+5,none⟩) hbl).trans r5;have e6:=(hbw.cell (p:=⟨b,o+k*7+6,none⟩) hbl).trans r6;have HKS:=zz hks;have HBW:=zz hbw;have hstep:EO id nd (r::l.drop (k+1)) out done=R:=by
    have:=HG.out;rw[Au hlt,show l[k]=r from(Af.1 hr).2] at this;exact this
   rw[EO] at hstep;clear r0 r1 r2 r3 r4 r5 r6 hks hbw HG hr;go_upto_region 6 with fail;have hn:=AZ wr (.cells (Ap r (.slice kr r.node.kids.length cr)).toArray 46);have hbn:Below W0.heap.size W0 (wr.alloc (.cells (Ap r (.slice kr r.node.kids.length cr)).toArray 46)):=HB.out.alloc HB.out.size _;have hon:=HO.out.alloc (.cells (Ap r (.slice kr r.node.kids.length cr)).toArray 46);have hzn:(wr.alloc (.cells (Ap r (.slice kr r.node.kids.length cr)).toArray 46)).heap.size=wr.heap.size+1:=by simp
   simp only[Ap] at hn hbn hon hzn;generalize World.alloc wr _=W1 at hn hbn hon hzn⊢;have f:=fun i=>AJ W1 wr.heap.size i _ _ (0,0) hn;have f0:=f 0;have f1:=f 1;have f2:=f 2;have f3:=f 3;have f4:=f 4;have f5:=f 5;have f6:=f 6;simp at f0 f1 f2 f3 f4 f5 f6;have HON:=zz hon;have HBN:=zz hbn;have HZN:=zz hzn;have HNE:=zz (fun q e=>(HO.out.lt q e).2);clear f hn hbn hon hzn e0 e1 e2 e3 e4 e5 e6 HO HB;by_cases hid:r.id=id
   ·have q:((r.id:Int)==(id:Int))=true:=by simp[hid]
    rw[if_pos hid] at hstep;have HS2:=zz hstep;clear hstep hid;go_wp2;go_roundw
    case rel=>exact⟨k+1,out,ks,done,by go_num,rfl,by omega,by omega,HK.out,HON.out,HBN.out,HS2.out⟩
    case measure=>simp[intOf];omega
   ·have q:((r.id:Int)==(id:Int))=false:=by simp;omega
    rw[if_neg hid] at hstep;clear hid;have hw0:w.heap.size < W0.heap.size:=by have:=HZ.out;omega
    have g:=fun j u h=>(HBN.out.cell (p:=⟨w.heap.size,j,none⟩) hw0).trans (HBX.out j u h);have g0:=g 0 _ rfl;have g1:=g 1 _ rfl;have g2:=g 2 _ rfl;have g3:=g 3 _ rfl;have g4:=g 4 _ rfl;have g5:=g 5 _ rfl;clear g;by_cases hlt2:id < r.id∧done=false
    ·obtain⟨hlt2,rfl⟩:=hlt2
     rw[if_pos ⟨hlt2,rfl⟩] at hstep;have q2:decide ((id:Int) < (r.id:Int))=true:=by simpa using hlt2
     have q3:decide (id < r.id)=true:=by simpa using hlt2
     have HS2:=zz hstep;clear hstep hlt2
     go_wp2_with (at_builtin;refine wpList_append_own_at _ rfl (.tmp 29) (.tmp 33) _ rfl W0.heap.size 46 i0 _ 7 80 Tryz.underlying24 hi hz0 hz1 hz2 rfl (by decide) _ _ _ rfl (HON.out.alloc _) ⟨_,0,none⟩ 1 1 (Ap ⟨id,nd⟩ (.slice ka nd.kids.length kc)) rfl rfl (Ao _ _ _) ?_ ?_ ?_ ?_ ?_)
     ·exact KA _ _ _ _
     ·unfold maxLen;omega
     ·omega
     ·have:=HBN.out.size;simp;omega
     intro v4 W4 own4 gr4 _ at4;have HO4:=zz (I9 HK.out.1 own4);have HB4:=zz (Gh HBN.out HBN.out.size gr4 (fun j e=>(HON.out.lt j e).1));have hne:some wr.heap.size≠Value.ownBlock u7:=fun e=>by have:=HNE.out _ e.symm;omega
     have m:=fun i u (h:W1.cell? ⟨wr.heap.size,i,none⟩=some u)=>gr4.cell (Dw h (.cells (Ap ⟨id,nd⟩ (.slice ka nd.kids.length kc)).toArray 46)) hne;have m0:=m 0 _ f0;have m1:=m 1 _ f1;have m2:=m 2 _ f2;have m3:=m 3 _ f3;have m4:=m 4 _ f4;have m5:=m 5 _ f5;have m6:=m 6 _ f6;have HK4:=zz (HK.out.snoc (r:=⟨id,nd⟩) HS.out);clear m own4 gr4 at4 hne f0 f1 f2 f3 f4 f5 f6 g0 g1 g2 g3 g4 g5
     go_wp2_with (at_builtin;refine wpList_append_own_at _ rfl (.tmp 35) (.tmp 37) _ rfl W0.heap.size 46 i0 _ 7 80 Tryz.underlying24 hi hz0 hz1 hz2 rfl (by decide) _ _ _ rfl (HO4.out.alloc _) ⟨_,0,none⟩ 1 1 (Ap r (.slice kr r.node.kids.length cr)) rfl rfl (Ao _ _ _) ?_ ?_ ?_ ?_ ?_)
     ·exact KA _ _ _ _
     ·unfold maxLen;simp;omega
     ·simp;omega
     ·have:=HB4.out.size;simp;omega
     intro v5 W5 own5 g5 _ at5;have HO5:=zz (I9 (r:=r) HK4.out.1 (by rw[List.length_append];exact own5));have HB5:=zz (Gh HB4.out HB4.out.size g5 (fun j e=>(HO4.out.lt j e).1));have HK5:=zz (HK4.out.snoc (r:=r) HKS.out);clear own5 g5 at5;go_wp2;go_roundw
     case rel=>exact⟨k+1,_,_,true,by go_num,rfl,by omega,by simp;omega,HK5.out,HO5.out,HB5.out,HS2.out⟩
     case measure=>simp[intOf];omega
    ·rw[if_neg hlt2] at hstep
     have HS2:=zz hstep;have hcs:(decide ((id:Int) < (r.id:Int))=false∧decide (id < r.id)=false)∨(decide ((id:Int) < (r.id:Int))=true∧decide (id < r.id)=true∧done=true):=by
      by_cases h:id < r.id
      ·right
       refine⟨by simpa using h,by simpa using h, ?_⟩;cases done with
       |true=>rfl
       |false=>exact absurd ⟨h,rfl⟩ hlt2
      ·exact .inl ⟨by simpa using h,by simpa using h⟩
     clear hstep hlt2 g0 g1 g2 g3 g4 g5;rcases hcs with⟨q2,q3⟩|⟨q2,q3,rfl⟩
     all_goals
      go_wp2_with (at_builtin;refine wpList_append_own_at _ rfl (.tmp 35) (.tmp 37) _ rfl W0.heap.size 46 i0 _ 7 80 Tryz.underlying24 hi hz0 hz1 hz2 rfl (by decide) _ _ _ rfl (HON.out.alloc _) ⟨_,0,none⟩ 1 1 (Ap r (.slice kr r.node.kids.length cr)) rfl rfl (Ao _ _ _) ?_ ?_ ?_ ?_ ?_)
      ·exact KA _ _ _ _
      ·unfold maxLen;omega
      ·omega
      ·have:=HBN.out.size;simp;omega
      intro v5 W5 own5 g5 _ at5;have HO5:=zz (I9 (r:=r) HK.out.1 own5);have HB5:=zz (Gh HBN.out HBN.out.size g5 (fun j e=>(HON.out.lt j e).1));have HK5:=zz (HK.out.snoc (r:=r) HKS.out);clear own5 g5 at5 f0 f1 f2 f3 f4 f5 f6;go_wp2;go_roundw
      case rel=>exact⟨k+1,_,_,_,by go_num,rfl,by omega,by simp;omega,HK5.out,HO5.out,HB5.out,HS2.out⟩
      case measure=>simp[intOf];omega
  ·obtain rfl:k=l.length:=by omega
   have hg:=HG.out;rw[List.drop_length,EO] at hg;have hw0:w.heap.size < W0.heap.size:=by have:=HZ.out;omega
   have g:=fun j u h=>(HB.out.cell (p:=⟨w.heap.size,j,none⟩) hw0).trans (HBX.out j u h);have g0:=g 0 _ rfl;have g1:=g 1 _ rfl;have g2:=g 2 _ rfl;have g3:=g 3 _ rfl;have g4:=g 4 _ rfl;have g5:=g 5 _ rfl;have hbw:Below w.heap.size w wr:=HB0.out.trans (HB.out.mono HB0.out.size);have HBW:=zz hbw;cases done with
   |true=>
     rw[if_pos rfl] at hg;have HGR:=zz hg;clear g g0 g1 g2 g3 g4 g5 hg HG hbw;go_wp2;go_ret;rw[←HGR.out];exact⟨_,rfl,JO HO.out HK.out HBW.out,HBW.out⟩
   |false=>
     rw[if_neg (by decide)] at hg;have HGR:=zz hg;clear g hg HG hbw
     go_wp2_with (at_builtin;refine wpList_append_own_at _ rfl (.tmp 42) (.tmp 46) _ rfl W0.heap.size 46 i0 _ 7 80 Tryz.underlying24 hi hz0 hz1 hz2 rfl (by decide) _ _ _ rfl (HO.out.alloc _) ⟨_,0,none⟩ 1 1 (Ap ⟨id,nd⟩ (.slice ka nd.kids.length kc)) rfl rfl (Ao _ _ _) ?_ ?_ ?_ ?_ ?_)
     ·exact KA _ _ _ _
     ·unfold maxLen;omega
     ·omega
     ·have:=HB.out.size;simp;omega
     intro v5 W5 own5 gr5 _ at5;have HO5:=zz (I9 (r:=⟨id,nd⟩) HK.out.1 own5);have HB5:=zz (Gh HB.out HB.out.size gr5 (fun j e=>(HO.out.lt j e).1));have HK5:=zz (HK.out.snoc (r:=⟨id,nd⟩) HS.out);clear own5 gr5 at5 g0 g1 g2 g3 g4 g5;go_wp2;go_ret;rw[←HGR.out];have hbF:Below w.heap.size w W5:=HB0.out.trans (HB5.out.mono HB0.out.size);exact⟨_,rfl,JO HO5.out HK5.out hbF,hbF⟩
end Go.Proofs.YtijhlanclfajiaaGreatDoor
namespace Go.Proofs.YtijhlanclfajiaaGreatDoor
open Go.RowKit
theorem YW:(Tryz.prog.info? 37).map (fun i=>(i.zero,i.size,i.bytes))=some (some (.int .u64 0),1,8):=by kernel_rfl
def ZY(l:List Hg.Row)(r:List Nat)(w:World)(K:Nat)(k:Nat)(out wait:Value)(wr:World):Prop:=
 ∃(wl ol:List Nat) (g o c:Nat),Hg.EA l k wl ol=some r∧wr.ownsRow w.heap.size 37 1 out ol.length (ol.map idV)∧wait= .slice (some ⟨g,o,none⟩) wl.length c∧wl.length≤c∧
   g < wr.heap.size∧out.ownBlock≠some g∧(∀j,(h:j < wl.length)→wr.cell? ⟨g,o+j,none⟩=some (idV wl[j]))∧Hg.Dp l wl ol < k∧ol.length+k≤K∧Below w.heap.size w wr
theorem Kn(B:Nat)(v:Value)(l:List Hg.Row)(id:Nat)(w:World)(hB:B≤w.heap.size)(hx:Aw w B v l)(hl:l.length≤1000000000)(hks:Hg.BF l≤100000000):
 Calls Tryz.prog 112 #[v,.int .u64 (id:Int)] w fun e w'=>(∃a c,e= .returned (.slice a (Hg.walk l id).length c)∧Sl w' w'.heap.size (.slice a (Hg.walk l id).length c) (Hg.walk l id).length ((Hg.walk l id).map idV))∧Below w.heap.size w w':=by
 obtain⟨j0,hj,hj0,hj1,hj2⟩:=info_parts YW;have hX:=zz hx;obtain⟨a,c,rfl⟩:=hx.form;clear hx;have hw:=Hg.O7 l id;have hmu:Hg.Dp l [id] [] < Hg.BF l+2:=by
  unfold Hg.Dp;have:l.filter (fun r=> !Hg.isIn [] r.id)=l:=by rw[List.filter_eq_self];intro r _;rfl
  rw[this];simp;omega
 have HW:=zz hw;clear hw;generalize Hg.walk l id=r at HW;generalize hK:Hg.BF l+2=K at HW hmu;have hKb:K≤100000002:=by omega
 clear hK hks;go_enter Tryz.func112,Tryz.ntmps112;go_wp2
 go_loopg [5,6] K (fun k out wait wr=>ZY l r w K k out wait wr)
 case atStart=>
  refine⟨[id],[],w.heap.size,0,1,HW.out,World.ownsRow_nil _ _ _ _,rfl,AA,by simp,by simp[Value.ownBlock],fun j hj=> ?_,hmu,by simp,(AP).alloc AA _⟩;simp at hj;subst hj
  simp[go_sem]
 case round=>
  obtain⟨wl,ol,g,o,c2,hgo,hown,rfl,hlc,hgl,hne,hcells,hmu2,hKK,hb⟩:=hrel;have HO:=zz hown;have HNE:=zz hne;clear hown hne HW hmu;cases gk with
  |zero=>omega
  |succ kf=>
    cases wl with
    |nil=>
      rw[Hg.EA] at hgo;injection hgo with hgo;clear hcells;subst hgo;go_wp2;go_ret;have hs:=Sl.Ai HO.out;obtain⟨a2,c3,hv⟩:=hs.form;subst hv;exact⟨⟨a2,c3,rfl,hs⟩,hb⟩
    |cons i tl=>
      have hc0:=hcells 0 (by simp);simp only[Nat.add_zero,List.getElem_cons_zero] at hc0;simp only[List.length_cons] at hlc;rw[Hg.EA] at hgo;by_cases hc1:c2=1
      ·have htl:tl=[]:=List.eq_nil_of_length_eq_zero (by omega)
       have hct:∀j,(h:j < tl.length)→wr.cell? ⟨g,o+j,none⟩=some (idV tl[j]):=fun j h=>by rw[htl] at h;simp at h
       clear htl hcells;subst hc1;have HLC:=zz hlc;clear hlc;have HCT:=zz hct;clear hct;have hbs:=hb.size;cases hk:Hg.atI l i with
       |none=>
         rw[hk] at hgo;have HGO:=zz hgo;have HA:=zz (De hk);clear hgo hk
         go_wp2_with (go_at_call 111;refine(DV B _ l i _ (by omega) (hX.out.below hb hB) hl).mono ?_;rintro e w1 ⟨rfl,hb1⟩;rw[HA.out])
         go_roundg kf
         case measure=>omega
         case rel=>
          exact⟨tl,ol,g,o,0,HGO.out,BX HO.out hb1 AA,rfl,by have:=HLC.out;omega,Ae hgl hb1.size,HNE.out,fun j h=>(hb1.cell (p:=⟨g,o+j,none⟩) hgl).trans (HCT.out j h),by unfold Hg.Dp at hmu2⊢;simp at hmu2;omega,by omega,hb.trans (hb1.mono hb.size)⟩
       |some k=>
         rw[hk] at hgo;dsimp only at hgo;have hkr:=D6 hk;have HA:=zz (Dc hk);have hkn:=hk;by_cases hin:Hg.isIn ol i=true
         ·rw[if_pos hin] at hgo
          have HGO:=zz hgo;have HIN:=zz hin;clear hgo hk hkr hin hkn
          go_wp2_with (first
           |(go_at_call 111;refine(DV B _ l i _ (by omega) (hX.out.below hb hB) hl).mono ?_;rintro e w1 ⟨rfl,hb1⟩;rw[HA.out])
           |(go_at_call 118;refine(KR w1.heap.size _ ol i _ (Sl.Ai (BX HO.out hb1 AA)) (by omega)).mono ?_;rintro e w' ⟨rfl,rfl⟩;rw[HIN.out]))
          go_roundg kf
          case measure=>omega
          case rel=>
           exact⟨tl,ol,g,o,0,HGO.out,BX HO.out hb1 AA,rfl,by have:=HLC.out;omega,Ae hgl hb1.size,HNE.out,fun j h=>(hb1.cell (p:=⟨g,o+j,none⟩) hgl).trans (HCT.out j h),by unfold Hg.Dp at hmu2⊢;simp at hmu2;omega,by omega,hb.trans (hb1.mono hb.size)⟩
         ·rw[if_neg hin] at hgo
          have hinf:Hg.isIn ol i=false:=by simpa using hin
          have hmu3:=Hg.DY l ol i k hk hinf;have HGO:=zz hgo;have HIN:=zz hinf;have HKR:=zz hkr;have hkl:k < l.length:=(Af.1 hkr).1;have hkk:(Hg.CU l k).length+tl.length+1≤kf+1:=by unfold Hg.Dp at hmu2;simp at hmu2;omega
          have hkk2:(Hg.rowAt l k).node.kids.length+tl.length+1≤kf+1:=hkk;clear hgo hk hkr hin hkn hinf
          go_wp2_with (first
           |(go_at_call 111;refine(DV B _ l i _ (by omega) (hX.out.below hb hB) hl).mono ?_;rintro e w1 ⟨rfl,hb1⟩;rw[HA.out];obtain⟨br,orr,ka,kc,rfl,hbrB,hkid,_,_,_,_,_,_,d6⟩:=(hX.out.below (hb.trans (hb1.mono hb.size)) hB).at_ HKR.out;have HK:=zz hkid;clear hkid)
           |(go_at_call 118;refine(KR w1.heap.size _ ol i _ (Sl.Ai (BX HO.out hb1 AA)) (by omega)).mono ?_;rintro e w' ⟨rfl,rfl⟩;rw[HIN.out])
           |(at_builtin;refine wpList_append_own_at _ rfl (.tmp 29) (.tmp 31) _ rfl w.heap.size 37 j0 _ 1 8 Tryz.underlying42 hj hj0 hj1 hj2 rfl (by decide) _ _ _ rfl ((BX HO.out hb1 AA).alloc _) ⟨_,0,none⟩ 1 1 [idV i] rfl rfl (Ao _ _ _) ?_ ?_ ?_ ?_ ?_))
          ·intro u hu;simp only[List.mem_singleton] at hu;subst hu;rfl
          ·unfold maxLen;omega
          ·omega
          ·have:=hb1.size;simp;omega
          intro v2 W2 own2 g2 _ at2;have hsz1:=hb1.size;have hsz2:=g2.size;simp only[World.size_alloc] at hsz2;have hne6:some br≠Value.ownBlock u5:=fun e=>by have:=(HO.out.lt br e.symm).1;omega
          have e7:W2.cell? ⟨br,orr+k*7+1+5,none⟩=some (.slice ka (Hg.rowAt l k).node.kids.length kc):=g2.cell (Dw d6 _) hne6;have hK2:Sl W2 B (.slice ka (Hg.rowAt l k).node.kids.length kc) (Hg.rowAt l k).node.kids.length ((Hg.rowAt l k).node.kids.map idV):=
           (HK.out.alloc (by omega) _).keep fun q hq=>World.cell?_of_block (g2.block q.block (by simp;omega) (fun e=>by have:=(HO.out.lt q.block e.symm).1;omega))
          have hT2:Sl W2 W2.heap.size (.slice (some ⟨g,o,none⟩) tl.length (0)) tl.length (tl.map idV):=by
           have h0:Sl wr wr.heap.size (.slice (some ⟨g,o,none⟩) tl.length (0)) tl.length (tl.map idV):=
            ⟨_,_,rfl,fun _=>⟨g,o,rfl,hgl,fun j h=>by have:=HCT.out j (by simpa using h);simpa using this⟩⟩
           have h1:=(h0.below hb1 AA).more hsz1;have h2:=h1.alloc AA (.cells #[idV i] 37);exact(h2.grown (by simp) g2 (fun q hq e=>HNE.out (by rw[hq];exact e.symm))).more (by omega)
          have hnew:∀q,v2.ownBlock=some q→q < W2.heap.size:=fun q hq=>(own2.lt q hq).2;have HNEW:=zz hnew;have HK2:=zz hK2;have HT2:=zz hT2;have hbW2:Below w.heap.size w W2:=by
           refine(hb.trans (hb1.mono hb.size)).trans ?_;refine((Below.refl w.heap.size w1).alloc (by omega) (.cells #[idV i] 37)).trans ?_;exact⟨g2.os,g2.tape,g2.output,g2.size,fun q hq=>g2.block q (by simp;omega) (fun e=>by have:=(HO.out.lt q e.symm).1;omega)⟩
          obtain⟨y2,z2,rfl⟩:=ownsRow_succ own2;have OW2:=zz own2;have HG2:=zz g2;have e8:(W2.alloc (.cells #[] 37)).cell? ⟨br,orr+k*7+1+5,none⟩=some (.slice ka (Hg.rowAt l k).node.kids.length kc):=Dw e7 _;have hbr2:br < W2.heap.size:=by omega
          clear own2 g2 at2 hnew hK2 hT2 d6
          go_wp2_with (at_builtin;refine Bb _ rfl (.tmp 33) (.tmp 39) _ rfl w.heap.size 37 j0 _ 8 Tryz.underlying42 hj hj0 hj1 hj2 rfl _ _ _ rfl (Di _ _ _ ?_) B _ _ _ rfl (HK2.out.alloc ?_ _) ?_ (Ej _) ?_ ?_ ?_ ?_)
          ·omega
          ·omega
          ·simp
          ·unfold maxLen;omega
          ·omega
          ·simp;omega
          intro v3 W3 own3 g3 at3
          try simp only[Nat.zero_add,List.nil_append] at own3
          have hsz3:=g3.size;simp only[World.size_alloc] at hsz3;have hat3:∀q,v3.ownBlock=some q→W2.heap.size≤q:=fun q hq=>by
           rcases at3 with e|e
           ·rw[e] at hq;simp only[Value.ownBlock,Option.some.injEq] at hq;omega
           ·rw[e] at hq;simp only[World.size_alloc,Option.some.injEq] at hq;omega
          have hsome3:v3.ownBlock≠none:=fun hn=>by
           rcases at3 with e|e <;>(rw[e] at hn;cases hn)
          have hT3:Sl W3 W2.heap.size (.slice (some ⟨g,o,none⟩) tl.length (0)) tl.length (tl.map idV):=
           (HT2.out.alloc AA _).grown (by simp) g3 (fun q hq e=>by
            simp only[Value.ownBlock,Option.some.injEq] at hq e;omega)
          have hO3:W3.ownsRow w.heap.size 37 1 (.slice (some ⟨y2,0,none⟩) (ol.length+1) z2) (ol.length+1) (ol.map idV++[idV i]):=
           (OW2.out.alloc _).kept g3 (.inr fun e=>by
            have:=HNEW.out y2 rfl;have e':some y2=some W2.heap.size:=e;injection e' with e';omega)
          have hbW3:Below w.heap.size w W3:=by
           refine hbW2.trans (((Below.refl w.heap.size W2).alloc (by omega) (.cells #[] 37)).trans ?_);exact⟨g3.os,g3.tape,g3.output,g3.size,fun q hq=>g3.block q (by simp;omega) (fun e=>by
            have e':some q=some W2.heap.size:=e;injection e' with e';omega)⟩
          have HT3:=zz hT3;have HO3:=zz hO3;have HAT3:=zz hat3;have HSO3:=zz hsome3;clear hT3 hO3 hat3 hsome3 at3 g3 e7 e8;have hyl:=HNEW.out y2 rfl;have OW3:=zz own3;clear own3
          go_wp2_with (at_builtin;refine Bb _ rfl (.tmp 40) (.tmp 41) _ rfl w.heap.size 37 j0 _ 8 Tryz.underlying42 hj hj0 hj1 hj2 rfl _ _ _ rfl OW3.out W2.heap.size _ _ _ rfl HT3.out ?_ (Ej _) ?_ ?_ ?_ ?_)
          ·simp
          ·unfold maxLen;omega
          ·omega
          ·omega
          intro v4 W4 own4 g4 at4;have hs4:∃q,v4.ownBlock=some q∧W2.heap.size≤q:=by
           rcases at4 with e|e
           ·cases h3:v3.ownBlock with
            |none=>exact absurd h3 HSO3.out
            |some q=>exact⟨q,e.trans h3,HAT3.out q h3⟩
           ·exact⟨_,e,by omega⟩
          obtain⟨q4,hq4,hq4l⟩:=hs4;obtain⟨c4,rfl,hc4,_,hq4s⟩:=IP own4 hq4;have hO4:W4.ownsRow w.heap.size 37 1 (.slice (some ⟨y2,0,none⟩) (ol.length+1) z2) (ol.length+1) (ol.map idV++[idV i]):=
           HO3.out.kept g4 (.inr fun e=>by
            have:=HAT3.out y2 e.symm;omega)
          have hbW4:Below w.heap.size w W4:=
           hbW3.trans ⟨g4.os,g4.tape,g4.output,g4.size,fun q hq=>g4.block q (by have:=hbW3.size;omega) (fun e=>by have:=HAT3.out q e.symm;omega)⟩
          have hcl:∀j,(h:j < (Hg.CU l k++tl).length)→W4.cell? ⟨q4,0+j,none⟩=some (idV (Hg.CU l k++tl)[j]):=fun j h=>by
           have e1:=World.ownsRow.cellAt own4 j (by simp only[List.length_append] at h;show j < _;simp;exact h);rw[Nat.zero_add,e1,←List.map_append];show(List.map idV (Hg.CU l k++tl))[j]? =_;rw[List.getElem?_map,AX h];rfl
          have HCL:=zz hcl;have HO4:=zz hO4;clear hcl hO4 own4 g4 at4 hq4;go_wp2
          go_roundg kf
          case measure=>omega
          case rel=>
           refine⟨Hg.CU l k++tl,ol++[i],q4,0,c4,HGO.out, ?_, ?_, ?_,hq4s, ?_,HCL.out, ?_, ?_,hbW4⟩
           ·simpa using HO4.out
           ·rw[List.length_append];rfl
           ·rw[List.length_append];exact hc4
           ·intro e
            have e':some y2=some q4:=e;injection e' with e';omega
           ·unfold Hg.Dp at hmu2⊢
            simp only[List.length_cons,List.length_append] at hmu2⊢;omega
           ·simp only[List.length_append,List.length_singleton];omega
      ·have hct:∀j,(h:j < tl.length)→wr.cell? ⟨g,o+1+j,none⟩=some (idV tl[j]):=fun j h=>by
        have:=hcells (j+1) (by simp;omega);rw[show o+1+j=o+(j+1) by omega,this];rfl
       clear hcells;have HCT:=zz hct;clear hct;have hbs:=hb.size;cases hk:Hg.atI l i with
       |none=>
         rw[hk] at hgo;have HGO:=zz hgo;have HA:=zz (De hk);clear hgo hk
         go_wp2_with (go_at_call 111;refine(DV B _ l i _ (by omega) (hX.out.below hb hB) hl).mono ?_;rintro e w1 ⟨rfl,hb1⟩;rw[HA.out])
         go_roundg kf
         case measure=>omega
         case rel=>
          exact⟨tl,ol,g,(o+1),c2-1,HGO.out,BX HO.out hb1 AA,rfl,by omega,Ae hgl hb1.size,HNE.out,fun j h=>(hb1.cell (p:=⟨g,(o+1)+j,none⟩) hgl).trans (HCT.out j h),by unfold Hg.Dp at hmu2⊢;simp at hmu2;omega,by omega,hb.trans (hb1.mono hb.size)⟩
       |some k=>
         rw[hk] at hgo;dsimp only at hgo;have hkr:=D6 hk;have HA:=zz (Dc hk);have hkn:=hk;by_cases hin:Hg.isIn ol i=true
         ·rw[if_pos hin] at hgo
          have HGO:=zz hgo;have HIN:=zz hin;clear hgo hk hkr hin hkn
          go_wp2_with (first
           |(go_at_call 111;refine(DV B _ l i _ (by omega) (hX.out.below hb hB) hl).mono ?_;rintro e w1 ⟨rfl,hb1⟩;rw[HA.out])
           |(go_at_call 118;refine(KR w1.heap.size _ ol i _ (Sl.Ai (BX HO.out hb1 AA)) (by omega)).mono ?_;rintro e w' ⟨rfl,rfl⟩;rw[HIN.out]))
          go_roundg kf
          case measure=>omega
          case rel=>
           exact⟨tl,ol,g,(o+1),c2-1,HGO.out,BX HO.out hb1 AA,rfl,by omega,Ae hgl hb1.size,HNE.out,fun j h=>(hb1.cell (p:=⟨g,(o+1)+j,none⟩) hgl).trans (HCT.out j h),by unfold Hg.Dp at hmu2⊢;simp at hmu2;omega,by omega,hb.trans (hb1.mono hb.size)⟩
         ·rw[if_neg hin] at hgo
          have hinf:Hg.isIn ol i=false:=by simpa using hin
          have hmu3:=Hg.DY l ol i k hk hinf;have HGO:=zz hgo;have HIN:=zz hinf;have HKR:=zz hkr;have hkl:k < l.length:=(Af.1 hkr).1;have hkk:(Hg.CU l k).length+tl.length+1≤kf+1:=by unfold Hg.Dp at hmu2;simp at hmu2;omega
          have hkk2:(Hg.rowAt l k).node.kids.length+tl.length+1≤kf+1:=hkk;clear hgo hk hkr hin hkn hinf
          go_wp2_with (first
           |(go_at_call 111;refine(DV B _ l i _ (by omega) (hX.out.below hb hB) hl).mono ?_;rintro e w1 ⟨rfl,hb1⟩;rw[HA.out];obtain⟨br,orr,ka,kc,rfl,hbrB,hkid,_,_,_,_,_,_,d6⟩:=(hX.out.below (hb.trans (hb1.mono hb.size)) hB).at_ HKR.out;have HK:=zz hkid;clear hkid)
           |(go_at_call 118;refine(KR w1.heap.size _ ol i _ (Sl.Ai (BX HO.out hb1 AA)) (by omega)).mono ?_;rintro e w' ⟨rfl,rfl⟩;rw[HIN.out])
           |(at_builtin;refine wpList_append_own_at _ rfl (.tmp 29) (.tmp 31) _ rfl w.heap.size 37 j0 _ 1 8 Tryz.underlying42 hj hj0 hj1 hj2 rfl (by decide) _ _ _ rfl ((BX HO.out hb1 AA).alloc _) ⟨_,0,none⟩ 1 1 [idV i] rfl rfl (Ao _ _ _) ?_ ?_ ?_ ?_ ?_))
          ·intro u hu;simp only[List.mem_singleton] at hu;subst hu;rfl
          ·unfold maxLen;omega
          ·omega
          ·have:=hb1.size;simp;omega
          intro v2 W2 own2 g2 _ at2;have hsz1:=hb1.size;have hsz2:=g2.size;simp only[World.size_alloc] at hsz2;have hne6:some br≠Value.ownBlock u5:=fun e=>by have:=(HO.out.lt br e.symm).1;omega
          have e7:W2.cell? ⟨br,orr+k*7+1+5,none⟩=some (.slice ka (Hg.rowAt l k).node.kids.length kc):=g2.cell (Dw d6 _) hne6;have hK2:Sl W2 B (.slice ka (Hg.rowAt l k).node.kids.length kc) (Hg.rowAt l k).node.kids.length ((Hg.rowAt l k).node.kids.map idV):=
           (HK.out.alloc (by omega) _).keep fun q hq=>World.cell?_of_block (g2.block q.block (by simp;omega) (fun e=>by have:=(HO.out.lt q.block e.symm).1;omega))
          have hT2:Sl W2 W2.heap.size (.slice (some ⟨g,(o+1),none⟩) tl.length (c2-1)) tl.length (tl.map idV):=by
           have h0:Sl wr wr.heap.size (.slice (some ⟨g,(o+1),none⟩) tl.length (c2-1)) tl.length (tl.map idV):=
            ⟨_,_,rfl,fun _=>⟨g,(o+1),rfl,hgl,fun j h=>by have:=HCT.out j (by simpa using h);simpa using this⟩⟩
           have h1:=(h0.below hb1 AA).more hsz1;have h2:=h1.alloc AA (.cells #[idV i] 37);exact(h2.grown (by simp) g2 (fun q hq e=>HNE.out (by rw[hq];exact e.symm))).more (by omega)
          have hnew:∀q,v2.ownBlock=some q→q < W2.heap.size:=fun q hq=>(own2.lt q hq).2;have HNEW:=zz hnew;have HK2:=zz hK2;have HT2:=zz hT2;have hbW2:Below w.heap.size w W2:=by
           refine(hb.trans (hb1.mono hb.size)).trans ?_;refine((Below.refl w.heap.size w1).alloc (by omega) (.cells #[idV i] 37)).trans ?_;exact⟨g2.os,g2.tape,g2.output,g2.size,fun q hq=>g2.block q (by simp;omega) (fun e=>by have:=(HO.out.lt q e.symm).1;omega)⟩
          obtain⟨y2,z2,rfl⟩:=ownsRow_succ own2;have OW2:=zz own2;have HG2:=zz g2;have e8:(W2.alloc (.cells #[] 37)).cell? ⟨br,orr+k*7+1+5,none⟩=some (.slice ka (Hg.rowAt l k).node.kids.length kc):=Dw e7 _;have hbr2:br < W2.heap.size:=by omega
          clear own2 g2 at2 hnew hK2 hT2 d6
          go_wp2_with (at_builtin;refine Bb _ rfl (.tmp 33) (.tmp 39) _ rfl w.heap.size 37 j0 _ 8 Tryz.underlying42 hj hj0 hj1 hj2 rfl _ _ _ rfl (Di _ _ _ ?_) B _ _ _ rfl (HK2.out.alloc ?_ _) ?_ (Ej _) ?_ ?_ ?_ ?_)
          ·omega
          ·omega
          ·simp
          ·unfold maxLen;omega
          ·omega
          ·simp;omega
          intro v3 W3 own3 g3 at3
          try simp only[Nat.zero_add,List.nil_append] at own3
          have hsz3:=g3.size;simp only[World.size_alloc] at hsz3;have hat3:∀q,v3.ownBlock=some q→W2.heap.size≤q:=fun q hq=>by
           rcases at3 with e|e
           ·rw[e] at hq;simp only[Value.ownBlock,Option.some.injEq] at hq;omega
           ·rw[e] at hq;simp only[World.size_alloc,Option.some.injEq] at hq;omega
          have hsome3:v3.ownBlock≠none:=fun hn=>by
           rcases at3 with e|e <;>(rw[e] at hn;cases hn)
          have hT3:Sl W3 W2.heap.size (.slice (some ⟨g,(o+1),none⟩) tl.length (c2-1)) tl.length (tl.map idV):=
           (HT2.out.alloc AA _).grown (by simp) g3 (fun q hq e=>by
            simp only[Value.ownBlock,Option.some.injEq] at hq e;omega)
          have hO3:W3.ownsRow w.heap.size 37 1 (.slice (some ⟨y2,0,none⟩) (ol.length+1) z2) (ol.length+1) (ol.map idV++[idV i]):=
           (OW2.out.alloc _).kept g3 (.inr fun e=>by
            have:=HNEW.out y2 rfl;have e':some y2=some W2.heap.size:=e;injection e' with e';omega)
          have hbW3:Below w.heap.size w W3:=by
           refine hbW2.trans (((Below.refl w.heap.size W2).alloc (by omega) (.cells #[] 37)).trans ?_);exact⟨g3.os,g3.tape,g3.output,g3.size,fun q hq=>g3.block q (by simp;omega) (fun e=>by
            have e':some q=some W2.heap.size:=e;injection e' with e';omega)⟩
          have HT3:=zz hT3;have HO3:=zz hO3;have HAT3:=zz hat3;have HSO3:=zz hsome3;clear hT3 hO3 hat3 hsome3 at3 g3 e7 e8;have hyl:=HNEW.out y2 rfl;have OW3:=zz own3;clear own3
          go_wp2_with (at_builtin;refine Bb _ rfl (.tmp 40) (.tmp 41) _ rfl w.heap.size 37 j0 _ 8 Tryz.underlying42 hj hj0 hj1 hj2 rfl _ _ _ rfl OW3.out W2.heap.size _ _ _ rfl HT3.out ?_ (Ej _) ?_ ?_ ?_ ?_)
          ·simp
          ·unfold maxLen;omega
          ·omega
          ·omega
          intro v4 W4 own4 g4 at4;have hs4:∃q,v4.ownBlock=some q∧W2.heap.size≤q:=by
           rcases at4 with e|e
           ·cases h3:v3.ownBlock with
            |none=>exact absurd h3 HSO3.out
            |some q=>exact⟨q,e.trans h3,HAT3.out q h3⟩
           ·exact⟨_,e,by omega⟩
          obtain⟨q4,hq4,hq4l⟩:=hs4;obtain⟨c4,rfl,hc4,_,hq4s⟩:=IP own4 hq4;have hO4:W4.ownsRow w.heap.size 37 1 (.slice (some ⟨y2,0,none⟩) (ol.length+1) z2) (ol.length+1) (ol.map idV++[idV i]):=
           HO3.out.kept g4 (.inr fun e=>by
            have:=HAT3.out y2 e.symm;omega)
          have hbW4:Below w.heap.size w W4:=
           hbW3.trans ⟨g4.os,g4.tape,g4.output,g4.size,fun q hq=>g4.block q (by have:=hbW3.size;omega) (fun e=>by have:=HAT3.out q e.symm;omega)⟩
          have hcl:∀j,(h:j < (Hg.CU l k++tl).length)→W4.cell? ⟨q4,0+j,none⟩=some (idV (Hg.CU l k++tl)[j]):=fun j h=>by
           have e1:=World.ownsRow.cellAt own4 j (by simp only[List.length_append] at h;show j < _;simp;exact h);rw[Nat.zero_add,e1,←List.map_append];show(List.map idV (Hg.CU l k++tl))[j]? =_;rw[List.getElem?_map,AX h];rfl
          have HCL:=zz hcl;have HO4:=zz hO4;clear hcl hO4 own4 g4 at4 hq4;go_wp2
          go_roundg kf
          case measure=>omega
          case rel=>
           refine⟨Hg.CU l k++tl,ol++[i],q4,0,c4,HGO.out, ?_, ?_, ?_,hq4s, ?_,HCL.out, ?_, ?_,hbW4⟩
           ·simpa using HO4.out
           ·rw[List.length_append];rfl
           ·rw[List.length_append];exact hc4
           ·intro e
            have e':some y2=some q4:=e;injection e' with e';omega
           ·unfold Hg.Dp at hmu2⊢
            simp only[List.length_cons,List.length_append] at hmu2⊢;omega
           ·simp only[List.length_append,List.length_singleton];omega
end Go.Proofs.YtijhlanclfajiaaGreatDoor
