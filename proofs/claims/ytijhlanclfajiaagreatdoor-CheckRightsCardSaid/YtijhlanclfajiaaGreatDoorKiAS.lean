/-
  A part of the proof.
-/
import Derived.Test.YtijhlanclfajiaaGreatDoorKiAQ
import Derived.Deep.CutBlock
import Derived.Deep.RegionHeld3
import Derived.Test.YtijhlanclfajiaaGreatDoorKiAB
set_option linter.all false
set_option maxHeartbeats 32000000
set_option maxRecDepth 100000
namespace Go.Proofs.YtijhlanclfajiaaGreatDoor
open Go.RowKit
def wr11(al:Hg.Alls)(x:Bool):Hg.Alls:={al with vis:={al.vis with wrong:=al.vis.wrong||x}}
theorem MX(al:Hg.Alls)(x y:Bool):wr11 (wr11 al x) y=wr11 al (x||y):=by unfold wr11;simp[Bool.or_assoc]
theorem TU(al:Hg.Alls):wr11 al false=al:=by unfold wr11;simp
def Pt(n:Hg.Node):Prop:=((n.kind=6∨n.kind=7∨n.kind=8∨n.kind=9∨n.kind=16∨n.kind=10∨n.kind=17)→1≤n.kids.length)∧(n.kind=18→2≤n.kids.length)
theorem BL{B wb:Nat}{w w':World}(hB:B≤wb)(h:w.grownBy w' (some wb))(hw:wb < w.heap.size):Below B w w':=
 ⟨h.os,h.tape,h.output,h.size,fun k hk=>h.block k (by omega) (fun e=>by injection e;omega)⟩
def NbAt(w:World)(nb:Nat)(n:Hg.Node)(ka:Option Addr)(kc:Nat):Prop:=w.heap[nb]? =some (.cells #[.int .u8 (n.kind:Int),strV n.name,.int .i64 n.num,.int .u8 (n.type:Int),.int .u64 (n.ref:Int),.slice ka n.kids.length kc] 44 (0,0))
theorem NbAt.cell{w:World}{nb:Nat}{n:Hg.Node}{ka:Option Addr}{kc:Nat}(h:NbAt w nb n ka kc):w.cell? ⟨nb,0,none⟩=some (.int .u8 (n.kind:Int))∧w.cell? ⟨nb,1,none⟩=some (strV n.name)∧w.cell? ⟨nb,2,none⟩=some (.int .i64 n.num)∧w.cell? ⟨nb,3,none⟩=some (.int .u8 (n.type:Int))∧
 w.cell? ⟨nb,4,none⟩=some (.int .u64 (n.ref:Int))∧w.cell? ⟨nb,5,none⟩=some (.slice ka n.kids.length kc):=by
 have hc:=fun i=>AJ w nb i _ _ (0,0) h;exact⟨hc 0,hc 1,hc 2,hc 3,hc 4,hc 5⟩
theorem NbAt.grown{w w':World}{nb wb:Nat}{n:Hg.Node}{ka:Option Addr}{kc:Nat}(h:NbAt w nb n ka kc)(hg:w.grownBy w' (some wb))(hne:wb≠nb):NbAt w' nb n ka kc:=
 (hg.block nb (Ab.1 h).1 (fun e=>by injection e with e;exact hne e.symm)).trans h
theorem Wz:(Tryz.prog.info? 37).map (fun i=>(i.zero,i.size,i.bytes))=some (some (.int .u64 0),1,8):=by kernel_rfl
theorem Vn{w:World}{wb b o:Nat}{al:Hg.Alls}{n:Int}(hW:WkAt w wb al)(hc:w.cell? ⟨b,o,none⟩=some (.int .u8 n)):b≠wb:=by
 rintro rfl;have h:=AJ w b o _ _ (0,0) hW;rw[hc] at h
 match o,h with
 |0,h=>simp at h
 |1,h=>simp at h
 |2,h=>simp at h
 |3,h=>simp at h
 |4,h=>simp at h
 |5,h=>simp at h
 |k+6,h=>simp at h
theorem Sl.u8At{w:World}{B:Nat}{a:Option Addr}{n c:Nat}{l:List Nat}(h:Sl w B (.slice a n c) n (l.map u8V)){m:Nat}(hm:m < l.length):∃b o,a=some ⟨b,o,none⟩∧w.cell? ⟨b,o+m,none⟩=some (.int .u8 (l[m]:Int))∧b < B:=by
 obtain⟨a2,c2,he,hc⟩:=h;injection he with e1 e2 e3;subst e1;subst e3;obtain⟨b,o,rfl,hb,hx⟩:=hc (by simp;omega);exact⟨b,o,rfl,by have:=hx m (by simp;omega);simpa[u8V] using this,hb⟩
theorem Uz(l:List Hg.Row)(n:Hg.Node)(fn:Nat)(h:n.kind=6):Hg.BD l n fn=Hg.Be l n 0 n.type:=by unfold Hg.BD;rw[if_pos h]
theorem Uy(l:List Hg.Row)(n:Hg.Node)(fn:Nat)(h:n.kind=7):Hg.BD l n fn=Hg.Be l n 0 (Hg.AL l n.ref).type:=by unfold Hg.BD;rw[if_neg (by omega),if_pos h]
theorem Ux(l:List Hg.Row)(n:Hg.Node)(fn:Nat)(h:n.kind=8∨n.kind=9∨n.kind=16):Hg.BD l n fn=Hg.Be l n 0 2:=by unfold Hg.BD;rw[if_neg (by omega),if_neg (by omega),if_pos h]
theorem SC(l:List Hg.Row)(n:Hg.Node)(fn:Nat)(h:n.kind=10):Hg.BD l n fn=Hg.Be l n 0 (Hg.AL l fn).type:=by unfold Hg.BD;rw[if_neg (by omega),if_neg (by omega),if_neg (by omega),if_pos h]
theorem SB(l:List Hg.Row)(n:Hg.Node)(fn:Nat)(h:n.kind=17):Hg.BD l n fn=Hg.Be l n 0 1:=by unfold Hg.BD;rw[if_neg (by omega),if_neg (by omega),if_neg (by omega),if_neg (by omega),if_pos h]
theorem Je(l:List Hg.Row)(n:Hg.Node)(fn want:Nat)(h:n.kind=18)(hw:(if n.num=10∨n.num=11 then Hg.typeOf l (n.kids.getD 0 0) else if n.num < 10 then 1 else 2)=want):Hg.BD l n fn=(Hg.Be l n 0 want||Hg.Be l n 1 want):=by
 unfold Hg.BD;rw[if_neg (by omega),if_neg (by omega),if_neg (by omega),if_neg (by omega),if_neg (by omega),if_pos h];subst hw;rfl
theorem SA(l:List Hg.Row)(n:Hg.Node)(fn:Nat)(h:n.kind=19):Hg.BD l n fn=(if (Hg.BV l n.ref).length≠n.kids.length then true else Hg.Dg l n 0 (Hg.BV l n.ref)):=by
 unfold Hg.BD;rw[if_neg (by omega),if_neg (by omega),if_neg (by omega),if_neg (by omega),if_neg (by omega),if_neg (by omega),if_pos h]
theorem R9(l:List Hg.Row)(n:Hg.Node)(fn:Nat)(h:n.kind≠6∧n.kind≠7∧n.kind≠8∧n.kind≠9∧n.kind≠16∧n.kind≠10∧n.kind≠17∧n.kind≠18∧n.kind≠19):Hg.BD l n fn=false:=by
 unfold Hg.BD;rw[if_neg (by omega),if_neg (by omega),if_neg (by omega),if_neg (by omega),if_neg (by omega),if_neg (by omega),if_neg (by omega)]
theorem kq{k a:Nat}(h:k=a):((k:Int)==6)=(a==6)∧((k:Int)==7)=(a==7)∧((k:Int)==8)=(a==8)∧((k:Int)==9)=(a==9)∧((k:Int)==16)=(a==16)∧((k:Int)==10)=(a==10)∧((k:Int)==17)=(a==17)∧((k:Int)==18)=(a==18)∧((k:Int)==19)=(a==19):=by
 have e:∀b:Nat,((k:Int)==(b:Int))=(a==b):=fun b=>by subst h;rw[Bool.eq_iff_iff];simp;omega
 exact⟨e 6,e 7,e 8,e 9,e 16,e 10,e 17,e 18,e 19⟩
theorem LZ(B wb:Nat)(v:Value)(l:List Hg.Row)(fn:Nat)(hl:l.length≤1000000000)(hBw:B≤wb)
 (hkn:∀x,(Hg.AL l x).kids.length≤4000000) (hkf:∀x,Pt (Hg.AL l x)) (hz:∀x,∀k∈(Hg.AL l x).kids,k≠0):
 ∀(fuel id:Nat) (sv:Value) (seen:List Nat) (al:Hg.Alls) (vi:Hg.Vis) (w:World),id≠0→Aw w B v l→Sl w w.heap.size sv seen.length (seen.map idV)→sv.ownBlock≠some wb→
   seen.length+fuel*4000000≤900000000→WkAt w wb al→Hg.Cz l fn fuel al.vis id seen=some vi→
 Calls Tryz.prog 70 #[.pointer (some ⟨wb,0,none⟩),v,.int .u64 (id:Int),sv,.int .u64 (fn:Int)] w fun e w'=>e= .returned (.tuple #[])∧WkAt w' wb {al with vis:=vi}∧w.grownBy w' (some wb)
 |0,_,_,_,_,_,_,_,_,_,_,_,_,h=>by simp[Hg.Cz] at h
 |f+1,id,sv,seen,al,vi,w,hid0,hx,hs,hsw,hsl,hW,hv=>by
   obtain⟨j0,hj,hj0,hj1,hj2⟩:=info_parts Wz;have IH:=zz (LZ B wb v l fn hl hBw hkn hkf hz f);have hX:=zz hx;obtain⟨a,c,rfl⟩:=hx.form;have HS:=zz hs;have HSW:=zz hsw;obtain⟨sa,sc,rfl⟩:=hs.form;have HW:=zz hW;have hwl:=hW.lt;have hB:B≤w.heap.size:=by omega
   have hkn1:=hkn id;have hkf1:=zz (hkf id);have hz1:=zz (hz id);rw[Hg.Cz] at hv;have HV:=zz hv;clear hx hs hW hv hsw hkf;have TN:=fun x W h1 h2=>zz (EH B (.slice a l.length c) l x W h1 h2 hl);have T1:=TN id w hB hX.out;generalize Hg.AL l id=nd at HV T1 hkn1 hkf1 hz1;have q0:((id:Int)==0)=false:=by simp;omega
   clear hid0;go_enter Tryz.func70,Tryz.ntmps70;go_wp2_with fail;refine T1.out.mono ?_;rintro e w1 ⟨ka,kc,rfl,hkid,hb1⟩;have HK:=zz hkid;clear hkid;go_upto_region 1 with fail;have hb2:Below w.heap.size w (w1.alloc (Bg nd ka kc)):=hb1.alloc hb1.size _;have hnb:NbAt (w1.alloc (Bg nd ka kc)) w1.heap.size nd ka kc:=AZ w1 _;have hnbs:w1.heap.size < (w1.alloc (Bg nd ka kc)).heap.size:=by simp
   have HK3:=zz ((HK.out.below ((AP).alloc AA (Bg nd ka kc)) (AO hB hb1.size)));have hnw:wb < w1.heap.size:=by have:=hb1.size;omega
   have hsz1:=hb1.size;generalize w1.heap.size=nb at hnb hnbs hnw hsz1⊢;generalize World.alloc w1 _=w2 at hb2 hnb hnbs HK3⊢;clear HK hb1;have HN:=zz hnb;obtain⟨k0,k1,k2,k3,k4,k5⟩:=hnb.cell;have HW2:=zz (HW.out.below hb2 AA);obtain⟨_,_,_,z3,_,_,_⟩:=HW2.out.cell;clear hnb;have TP:=fun i want al' W h1 h2 h3 h4 h5=>zz (Ry B wb (.slice a l.length c) l nd ka kc i want al' W h1 h2 hl h3 h4 (by omega) h5);have hX2:=zz (hX.out.below hb2 hB);have hBw2:B≤w2.heap.size:=AO hB hb2.size;have hbw2:wb < w2.heap.size:=by omega
   have hg0:w2.grownBy w2 (some wb):=⟨rfl,rfl,rfl,AA,fun _ _ _=>rfl⟩
   go_upto_block 0 with fail
   go_cut [11,12,13,14] from 35 to 138 (fun _ _ _ _ wx=>WkAt wx wb (wr11 al (Hg.BD l nd fn))∧w2.grownBy wx (some wb))
   case first=>as_aux_lemma=>
    clear HV IH;have hcs:nd.kind=6∨nd.kind=8∨nd.kind=9∨nd.kind=16∨nd.kind=17∨nd.kind=7∨nd.kind=10∨nd.kind=18∨nd.kind=19∨(nd.kind≠6∧nd.kind≠7∧nd.kind≠8∧nd.kind≠9∧nd.kind≠16∧nd.kind≠10∧nd.kind≠17∧nd.kind≠18∧nd.kind≠19):=by omega
    rcases hcs with h|h|h|h|h|h|h|h|h|h
    any_goals (have q:=kq h;dsimp only[Nat.reduceBEq] at q;obtain⟨q6,q7,q8,q9,q16,q10,q17,q18,q19⟩:=q)
    iterate 5
     ·have T:=fun t=>TP 0 t al w2 hBw2 hX2.out HK3.out (hkf1.out.1 (by omega)) HW2.out
      first
       |(have HB:=zz (Uz l nd fn h);replace T:=T nd.type)
       |(have HB:=zz (Ux l nd fn (by omega));replace T:=T 2)
       |(have HB:=zz (SB l nd fn h);replace T:=T 1)
      clear h
      go_wp2_with (go_at_call 116;refine T.out.mono ?_;rintro e w3 ⟨rfl,hW3,hg3⟩)
      go_meet
      case rel=>exact⟨by rw[HB.out];exact hW3,hg3⟩
    iterate 2
     ·have hi:0 < nd.kids.length:=hkf1.out.1 (by omega)
      first
       |(have HB:=zz (Uy l nd fn h);have T7:=fun W h1 h2=>TN nd.ref W h1 h2;generalize Hg.AL l nd.ref=nr at HB T7)
       |(have HB:=zz (SC l nd fn h);have T7:=fun W h1 h2=>TN fn W h1 h2;generalize Hg.AL l fn=nr at HB T7)
      clear h
      first
       |go_upto_region 7 with fail
       |go_upto_region 13 with fail
      have hdr:Below w2.heap.size w2 w2.drew:=(Below.refl w2.heap.size w2).drew
      go_region_held3 (fun w'=>w'.cell? ⟨nb,0,none⟩=some (.int .u8 (nd.kind:Int))∧w'.cell? ⟨nb,1,none⟩=some (strV nd.name)∧w'.cell? ⟨nb,2,none⟩=some (.int .i64 nd.num)∧w'.cell? ⟨nb,3,none⟩=some (.int .u8 (nd.type:Int))∧w'.cell? ⟨nb,4,none⟩=some (.int .u64 (nd.ref:Int))∧w'.cell? ⟨nb,5,none⟩=some (.slice ka nd.kids.length kc)) (first|exact⟨k0,k1,k2,k3,k4,k5⟩|exact⟨k0',k1',k2',k3',k4',k5'⟩|exact⟨k0'',k1'',k2'',k3'',k4'',k5''⟩) (first|(go_at_call 67;refine((T7 w2.drew hBw2 (hX2.out.below hdr hBw2)).out).mono ?_;rintro e w6 ⟨kx,cx,rfl,_,hb6⟩;have hb26:Below w2.heap.size w2 w6:=hdr.trans hb6;have hg6:=below_grown hb26 (some wb);obtain⟨k0',k1',k2',k3',k4',k5'⟩:=(HN.out.grown hg6 (by omega)).cell)|(go_at_call 116;refine(TP 0 nr.type al w6 (AO hBw2 hg6.size) (hX2.out.below hb26 hBw2) (HK3.out.below hb26 hBw2) hi (HW2.out.below hb26 AA)).out.mono ?_;rintro e w7 ⟨rfl,hW7,hg7⟩;obtain⟨k0'',k1'',k2'',k3'',k4'',k5''⟩:=(HN.out.grown (hg6.trans hg7) (by omega)).cell))
      go_wp2
      go_meet
      case rel=>exact⟨by rw[HB.out];exact hW7,hg6.trans hg7⟩
    ·have hi1:1 < nd.kids.length:=hkf1.out.2 h
     have hi0:0 < nd.kids.length:=by omega
     rcases(show nd.num=10∨nd.num=11∨nd.num < 10∨11 < nd.num by omega) with hn|hn|hn|hn
     iterate 2
      ·obtain⟨b3,o3,rfl,_,kc3⟩:=HK3.out.idAt hi0
       rw[Nat.add_zero] at kc3;have HB:=zz (Je l nd fn (Hg.typeOf l nd.kids[0]) h (by rw[if_pos (by omega)];simp[hi0]));have TT:=zz (Me B _ l nd.kids[0] w2 hBw2 hX2.out hl);generalize nd.kids[0]=x at kc3 TT HB;generalize Hg.typeOf l x=want at TT HB
       first
        |(have n10:(nd.num==10)=true:=by (simp;omega))
        | (have n10 : (nd.num == 10) = false := by (simp; omega)
           have n11:(nd.num==11)=true:=by (simp;omega))
       have n9:¬nd.num < 10:=by omega
       clear h hn;go_wp2_with fail;refine TT.out.mono ?_;rintro e w3 ⟨rfl,hb3⟩;have hg3:=below_grown hb3 (some wb);obtain⟨k0',k1',k2',k3',k4',k5'⟩:=(HN.out.grown hg3 (by omega)).cell;have hw3':=zz (HW2.out.below hb3 AA);go_wp2_with fail;refine(TP 0 want al w3 (AO hBw2 hg3.size) (hX2.out.below (BL hBw hg3 hbw2) AA) (HK3.out.below (BL hBw hg3 hbw2) AA) hi0 hw3'.out).out.mono ?_;rintro e w4 ⟨rfl,hW4,hg4⟩;have hg24:=World.grownBy.trans hg3 hg4;have HW4:=zz hW4;obtain⟨k0'',k1'',k2'',k3'',k4'',k5''⟩:=(HN.out.grown hg24 (by omega)).cell;go_wp2_with fail;refine(TP 1 want _ w4 (AO hBw2 hg24.size) (hX2.out.below (BL hBw hg24 hbw2) AA) (HK3.out.below (BL hBw hg24 hbw2) AA) hi1 HW4.out).out.mono ?_;rintro e w5 ⟨rfl,hW5,hg5⟩;go_wp2
       go_meet
       case rel=>exact⟨by rw[HB.out,←MX];exact hW5,hg24.trans hg5⟩
     iterate 2
      ·first
        |(have HB:=zz (Je l nd fn 1 h (by rw[if_neg (by omega),if_pos (by omega)]));have n9:nd.num < 10:=(by omega);have T0:=fun i=>TP i 1)
        |(have HB:=zz (Je l nd fn 2 h (by rw[if_neg (by omega),if_neg (by omega)]));have n9:¬nd.num < 10:=(by omega);have T0:=fun i=>TP i 2)
       have n10:(nd.num==10)=false:=by simp;omega
       have n11:(nd.num==11)=false:=by simp;omega
       clear h hn;obtain⟨k0',k1',k2',k3',k4',k5'⟩:=(HN.out.grown hg0 (by omega)).cell;have hw2':=zz HW2.out;go_wp2_with fail;refine(T0 0 al w2 (AO hBw2 hg0.size) (hX2.out.below (BL hBw hg0 hbw2) AA) (HK3.out.below (BL hBw hg0 hbw2) AA) hi0 hw2'.out).out.mono ?_;rintro e w4 ⟨rfl,hW4,hg4⟩;have hg24:=World.grownBy.trans hg0 hg4;have HW4:=zz hW4;obtain⟨k0'',k1'',k2'',k3'',k4'',k5''⟩:=(HN.out.grown hg24 (by omega)).cell;go_wp2_with fail;refine(T0 1 _ w4 (AO hBw2 hg24.size) (hX2.out.below (BL hBw hg24 hbw2) AA) (HK3.out.below (BL hBw hg24 hbw2) AA) hi1 HW4.out).out.mono ?_;rintro e w5 ⟨rfl,hW5,hg5⟩;go_wp2
       go_meet
       case rel=>exact⟨by rw[HB.out,←MX];exact hW5,hg24.trans hg5⟩
    ·have HB:=zz (SA l nd fn h)
     have hpl:(Hg.BV l nd.ref).length≤4000000:=by
      unfold Hg.BV;rw[List.length_map];exact AO (List.length_filter_le _ _) (hkn nd.ref)
     have T9:=zz (KD B _ l nd.ref w2 hBw2 hX2.out hl (by have:=hkn nd.ref;omega));generalize Hg.BV l nd.ref=ps at HB T9 hpl;clear h;go_wp2_with fail;refine T9.out.mono ?_;rintro e w3 ⟨⟨pa,pc,rfl,hps⟩,hb3⟩;have HPS:=zz hps;clear hps;have hg3:=below_grown hb3 (some wb);have HW3:=zz (HW2.out.below hb3 AA);obtain⟨k0',k1',k2',k3',k4',k5'⟩:=(HN.out.grown hg3 (by omega)).cell;by_cases hlen:ps.length=nd.kids.length
     ·have ql:((ps.length:Int) !=(nd.kids.length:Int))=false:=by simp[hlen]
      have HL:=zz hlen;clear hlen;go_wp2_with fail
      go_loopw [126] (fun q wr=>∃(m:Nat) (x:Bool),q= .int .i64 m∧m≤ps.length∧(x||Hg.Dg l nd m (ps.drop m))=Hg.Dg l nd 0 ps∧WkAt wr wb (wr11 al x)∧w3.grownBy wr (some wb)) (fun q _=>ps.length-(intOf q).toNat)
      case atStart=>exact⟨0,false,rfl,Nat.zero_le _,by simp,by rw[TU];exact HW3.out,⟨rfl,rfl,rfl,AA,fun _ _ _=>rfl⟩⟩
      case round=>
       obtain⟨m,x,rfl,hm,hpx,hWr,hgr⟩:=hrel;have HPX:=zz hpx;have HWr:=zz hWr;clear hpx hWr;have hg2:=hg3.trans hgr;by_cases hlt:m < ps.length
       ·obtain⟨b3,o3,rfl,c3,hb3w⟩:=HPS.out.u8At hlt
        have hne:=Vn HW3.out c3;have c3':=hgr.cell c3 (by intro e;injection e with e;exact hne e);have hstep:=HPX.out;rw[Au hlt,Hg.Dg,←Bool.or_assoc] at hstep;have HST:=zz hstep;clear hstep c3;have hmk:m < nd.kids.length:=by have:=HL.out;omega
        generalize ps[m]=y at c3' HST;obtain⟨k0',k1',k2',k3',k4',k5'⟩:=(HN.out.grown hg2 (by omega)).cell;go_wp2_with fail;refine(TP m y _ wr (AO hBw2 hg2.size) (hX2.out.below (BL hBw hg2 hbw2) AA) (HK3.out.below (BL hBw hg2 hbw2) AA) hmk HWr.out).out.mono ?_;rintro e w7 ⟨rfl,hW7,hg7⟩;go_wp2;go_roundw
        case rel=>exact⟨m+1,x||Hg.Be l nd m y,by go_num,by omega,HST.out,by rw[←MX];exact hW7,hgr.trans hg7⟩
        case measure=>simp[intOf];omega
       ·obtain rfl:m=ps.length:=by omega
        have he:x=Hg.BD l nd fn:=by rw[HB.out,if_neg (by rw[HL.out];simp),←HPX.out,List.drop_length,Hg.Dg,Bool.or_false]
        have HE:=zz he;clear he;go_wp2
        go_meet
        case rel=>exact⟨by rw[←HE.out];exact HWr.out,hg2⟩
     ·have ql:((ps.length:Int) !=(nd.kids.length:Int))=true:=by simp;omega
      have hbt:Hg.BD l nd fn=true:=by rw[HB.out,if_pos hlen]
      have HBT:=zz hbt;clear hbt hlen;obtain⟨_,_,c2,_,_,_,hf⟩:=HW3.out.cell;have f2:=hf 2;clear hf;go_wp2
      go_meet
      case rel=>exact⟨by rw[HBT.out];have h:=HW3.out.wrong;unfold wr11;rw[Bool.or_true];exact h,Ch hg3 2 _⟩
    ·have q6:((nd.kind:Int)==6)=false:=by simp;omega
     have q7:((nd.kind:Int)==7)=false:=by simp;omega
     have q8:((nd.kind:Int)==8)=false:=by simp;omega
     have q9:((nd.kind:Int)==9)=false:=by simp;omega
     have q16:((nd.kind:Int)==16)=false:=by simp;omega
     have q10:((nd.kind:Int)==10)=false:=by simp;omega
     have q17:((nd.kind:Int)==17)=false:=by simp;omega
     have q18:((nd.kind:Int)==18)=false:=by simp;omega
     have q19:((nd.kind:Int)==19)=false:=by simp;omega
     have HB:=zz (R9 l nd fn h);clear h;go_wp2
     go_meet
     case rel=>exact⟨by rw[HB.out,TU];exact HW2.out,hg0⟩
   case rest=>
    obtain⟨w3,rfl⟩:∃w3:World,w3=wc:=⟨_,rfl⟩;obtain⟨hW3,hg3⟩:=hcut;have HW3:=zz hW3;clear hW3 k0 k1 k2 k3 k4 k5 z3;have hgw:w.grownBy w3 (some wb):=(below_grown hb2 _).trans hg3;have HS3:=zz (Sl.grown HS.out AA hgw (fun g hg=>by injection hg with hg;subst hg;exact HSW.out));obtain⟨k0,k1,k2,k3,k4,k5⟩:=(HN.out.grown hg3 (by omega)).cell;go_upto_region 33 with fail;obtain⟨hv,hhv⟩:∃hv,((decide (nd.kind=7)||decide (nd.kind=15)) && !Hg.isIn seen nd.ref)=hv:=⟨_,rfl⟩;rw[hhv] at HV;have HHV:=zz hhv;clear hhv
    go_cut [152] from 138 to 153 (fun v wx=>v= .bool hv∧w3=wx)
    case first=>as_aux_lemma=>
     have TI:=zz (KR w.heap.size _ seen nd.ref w3 HS3.out (by omega));rcases(show nd.kind=7∨nd.kind=15∨(nd.kind≠7∧nd.kind≠15) by omega) with h|h|h
     ·have q7:((nd.kind:Int)==7)=true:=by simp[h]
      have HQ:=zz (show(!Hg.isIn seen nd.ref)=hv by rw[←HHV.out,h];rfl);clear h;go_wp2_with fail;refine TI.out.mono ?_;rintro e w4 ⟨rfl,rfl⟩;go_wp2
      go_meet
      case rel=>exact⟨by rw[←HQ.out],rfl⟩
     ·have q7:((nd.kind:Int)==7)=false:=by simp[h]
      have q15:((nd.kind:Int)==15)=true:=by simp[h]
      have HQ:=zz (show(!Hg.isIn seen nd.ref)=hv by rw[←HHV.out,h];rfl);clear h;go_wp2_with fail;refine TI.out.mono ?_;rintro e w4 ⟨rfl,rfl⟩;go_wp2
      go_meet
      case rel=>exact⟨by rw[←HQ.out],rfl⟩
     ·have q7:((nd.kind:Int)==7)=false:=by simp;omega
      have q15:((nd.kind:Int)==15)=false:=by simp;omega
      have HQ:=zz (show false=hv by rw[←HHV.out];simp[h.1,h.2]);clear h;go_wp2
      go_meet
      case rel=>exact⟨by rw[←HQ.out],rfl⟩
    case rest=>
     obtain⟨rfl,rfl⟩:=hcut;clear HHV;cases hv
     case' false=>
      go_upto_region 35 with fail;obtain⟨w4,rfl⟩:∃w4:World,w4=w3:=⟨_,rfl⟩;have hW4:WkAt w4 wb {al with vis:=⟨al.vis.hidden||false,al.vis.wrong||Hg.BD l nd fn⟩}:=by rw[Bool.or_false];exact HW3.out
      have hg4:=hg3;generalize Hg.BD l nd fn=nbad at hW4 HV HW3;generalize(⟨al.vis.hidden||false,al.vis.wrong||nbad⟩:Hg.Vis)=vi0 at hW4 HV
     case' true=>
      obtain⟨_,c1,_,_,_,_,hf⟩:=HW3.out.cell;have f1:=hf 1;clear hf;go_upto_region 35 with fail;have hW4:WkAt (w3.setCell ⟨wb,1,none⟩ (.bool true)) wb {al with vis:=⟨al.vis.hidden||true,al.vis.wrong||Hg.BD l nd fn⟩}:=by rw[Bool.or_true];exact HW3.out.hide
      have hg4:w2.grownBy (w3.setCell ⟨wb,1,none⟩ (.bool true)) (some wb):=Ch hg3 1 _;generalize World.setCell w3 _ _=w4 at hW4 hg4⊢;generalize Hg.BD l nd fn=nbad at hW4 HV HW3;generalize(⟨al.vis.hidden||true,al.vis.wrong||nbad⟩:Hg.Vis)=vi0 at hW4 HV
     all_goals
      as_aux_lemma=>
       clear k0 k1 k2 k3 k4 k5;obtain⟨_,_,_,_,_,k5⟩:=(HN.out.grown hg4 (by omega)).cell;have HW4:=zz hW4;have hgw4:w.grownBy w4 (some wb):=(below_grown hb2 _).trans hg4;have HS4:=zz (Sl.grown HS.out AA hgw4 (fun g hg=>by injection hg with hg;subst hg;exact HSW.out));have hsz4:=hgw4.size;clear hW4;go_wp2_with fail
       go_loopw [3,159] (fun sv q wr=>∃(m:Nat) (seen':List Nat) (ra:Option Addr) (rc:Nat) (vi':Hg.Vis),q= .int .i64 m∧m≤nd.kids.length∧sv= .slice ra seen'.length rc∧Sl wr wr.heap.size (.slice ra seen'.length rc) seen'.length (seen'.map idV)∧(Value.slice ra seen'.length rc).ownBlock≠some wb∧seen'.length≤seen.length+m∧WkAt wr wb {al with vis:=vi'}∧w4.grownBy wr (some wb)∧Hg.Dz l (Hg.Cz l fn f) (nd.kids.drop m) seen' vi'=some vi) (fun _ q _=>nd.kids.length-(intOf q).toNat)
       case atStart=>exact⟨0,seen,sa,sc,vi0,rfl,Nat.zero_le _,rfl,HS4.out.more hsz4,HSW.out,by omega,HW4.out,⟨rfl,rfl,rfl,AA,fun _ _ _=>rfl⟩,HV.out⟩
       case round=>
        obtain⟨m,sn,ra,rc,vi',rfl,hm,rfl,hsl',hso,hsn,hWr,hgr,hgo⟩:=hrel;have HSL:=zz hsl';have HSO:=zz hso;have HWr:=zz hWr;have HGO:=zz hgo;clear hsl' hso hWr hgo HV k5;have hg2r:=hg4.trans hgr;have hbr:Below B w2 wr:=BL hBw hg2r hbw2;by_cases hlt:m < nd.kids.length
        ·obtain⟨b3,o3,rfl,_,kc3⟩:=(HK3.out.below hbr AA).idAt hlt
         have hk0:nd.kids[m]≠0:=hz1.out _ (List.getElem_mem hlt);have hstep:=HGO.out;rw[Au hlt,Hg.Dz] at hstep;generalize nd.kids[m]=x at kc3 hstep hk0;cases hvx:Hg.Cz l fn f vi' x sn with
         |none=>rw[hvx] at hstep;cases hstep
         |some v2=>
           rw[hvx] at hstep;dsimp only at hstep;unfold Hg.kindOf at hstep;have TV:=zz (IH.out x _ sn {al with vis:=vi'} v2 wr hk0 (hX2.out.below hbr AA) HSL.out HSO.out (by omega) HWr.out hvx);have HST:=zz hstep;clear hstep hvx hk0 HGO;go_wp2_with fail;refine TV.out.mono ?_;rintro e w5 ⟨rfl,hW5,hg5⟩;have HW5:=zz hW5;clear hW5;have hg25:=hg2r.trans hg5;have hb5:Below B w2 w5:=BL hBw hg25 hbw2;have hB5:B≤w5.heap.size:=AO hBw2 hg25.size;have HX5:=zz (hX2.out.below hb5 AA);have T5:=TN x w5 hB5 HX5.out;have T6:=fun W h1 h2=>TN x W h1 h2;generalize Hg.AL l x=nx at T5 T6 HST;have hwr:wb < wr.heap.size:=HWr.out.lt;have HSL5:=zz (Sl.grown HSL.out AA hg5 (fun g hg=>by injection hg with hg;subst hg;exact HSO.out));rcases(show nx.kind=6∨nx.kind=4∨(nx.kind≠6∧nx.kind≠4) by omega) with h|h|h
           case inr.inr=>
            have q6:((nx.kind:Int)==6)=false:=by simp;omega
            have q4:((nx.kind:Int)==4)=false:=by simp;omega
            have hst:=HST.out;rw[if_neg (by omega)] at hst;have HST:=zz hst;clear h hst;go_wp2_with fail;refine T5.out.mono ?_;rintro e w6 ⟨kx6,cx6,rfl,_,hb6⟩;go_wp2_with fail;refine(T6 w6 (AO hB5 hb6.size) (HX5.out.below hb6 hB5)).out.mono ?_;rintro e w7 ⟨kx7,cx7,rfl,_,hb7⟩;have hb57:=hb6.trans (hb7.mono hb6.size);go_wp2;have hb5W4:=hb57;go_roundw
            case rel=>exact⟨m+1,sn,ra,rc,v2,by go_num,by omega,rfl,(HSL5.out.below hb57 hg5.size).more (AO hg5.size hb5W4.size),HSO.out,by omega,HW5.out.below hb5W4 AA,(hgr.trans hg5).trans (below_grown hb5W4 _),HST.out⟩
            case measure=>simp[intOf];omega
           case' inl=>
            have q6:((nx.kind:Int)==6)=true:=by simp[h]
            have hst:=HST.out;rw[if_pos (by omega)] at hst;have HST:=zz hst;clear h hst;go_wp2_with fail;refine T5.out.mono ?_;rintro e w7 ⟨kx6,cx6,rfl,_,hb57⟩
           case' inr.inl=>
            have q6:((nx.kind:Int)==6)=false:=by simp[h]
            have q4:((nx.kind:Int)==4)=true:=by simp[h]
            have hst:=HST.out;rw[if_pos (by omega)] at hst;have HST:=zz hst;clear h hst;go_wp2_with fail;refine T5.out.mono ?_;rintro e w6 ⟨kx6,cx6,rfl,_,hb6⟩;go_wp2_with fail;refine(T6 w6 (AO hB5 hb6.size) (HX5.out.below hb6 hB5)).out.mono ?_;rintro e w7 ⟨kx7,cx7,rfl,_,hb7⟩;have hb57:=hb6.trans (hb7.mono hb6.size)
           all_goals
            have hb5W:=zz hb57;have hszW:=hb57.size;have HSLW:=zz (HSL5.out.below hb57 hg5.size)
            go_wp2_with (at_builtin;refine Bb _ rfl (.tmp 181) (.tmp 182) _ rfl w7.heap.size 37 j0 _ 8 Tryz.underlying42 hj hj0 hj1 hj2 rfl _ _ _ rfl (Di _ _ _ ?_) wr.heap.size _ _ _ rfl (HSLW.out.alloc ?_ _) ?_ (Ej _) ?_ ?_ ?_ ?_)
            ·omega
            ·have:=hg5.size;omega
            ·simp
            ·unfold maxLen;omega
            ·omega
            ·simp
            intro v3 W3 own3 g3 at3
            try simp only[Nat.zero_add,List.nil_append] at own3
            have hbW3:Below w7.heap.size w7 W3:=((Below.refl w7.heap.size w7).alloc AA (.cells #[] 37)).trans ⟨g3.os,g3.tape,g3.output,g3.size,fun q hq=>g3.block q (by simp;omega) (fun e=>by
             have e':some q=some w7.heap.size:=e;injection e' with e';omega)⟩
            have hsz3:=hbW3.size;have OW3:=zz own3;clear own3 g3 at3
            go_wp2_with (at_builtin;refine wpList_append_own_at _ rfl (.tmp 183) (.tmp 185) _ rfl w7.heap.size 37 j0 _ 1 8 Tryz.underlying42 hj hj0 hj1 hj2 rfl (by decide) _ _ _ rfl (OW3.out.alloc _) ⟨_,0,none⟩ 1 1 [idV x] rfl rfl (Ao _ _ _) ?_ ?_ ?_ ?_ ?_)
            ·intro u hu;simp only[List.mem_singleton] at hu;subst hu;rfl
            ·unfold maxLen;omega
            ·omega
            ·simp;omega
            intro v4 W4 own4 g4 _ at4;have hbW4:Below w7.heap.size w7 W4:=(hbW3.alloc hsz3 (.cells #[idV x] 37)).trans ⟨g4.os,g4.tape,g4.output,g4.size,fun q hq=>g4.block q (by simp;omega) (fun e=>by have:=(OW3.out.lt q e.symm).1;omega)⟩;have own5:W4.ownsRow w7.heap.size 37 1 v4 (sn++[x]).length ((sn++[x]).map idV):=by simpa using own4
            have hso4:v4.ownBlock≠some wb:=fun e=>by have:=(own5.lt wb e).1;have:=hg5.size;omega
            have hs4:=Sl.Ai own5;obtain⟨a4,c4,rfl⟩:=hs4.form;have HSO4:=zz hso4;have HS5:=zz hs4;clear own4 own5 g4 at4 hso4 hs4;have hb5W4:Below w5.heap.size w5 W4:=hb5W.out.trans (hbW4.mono hb5W.out.size);go_wp2;go_roundw
            case rel=>exact⟨m+1,sn++[x],a4,c4,v2,by go_num,by omega,rfl,HS5.out,HSO4.out,by simp;omega,HW5.out.below hb5W4 AA,(hgr.trans hg5).trans (below_grown hb5W4 _),HST.out⟩
            case measure=>simp[intOf];omega
        ·obtain rfl:m=nd.kids.length:=by omega
         have he:=HGO.out;rw[List.drop_length,Hg.Dz] at he;injection he with he;subst he;go_wp2;go_end0;exact⟨rfl,HWr.out,hgw4.trans hgr⟩
@[simp,go_sem] theorem Xp(a b:List UInt8):ByteArray.mk a.toArray++ByteArray.mk b.toArray=ByteArray.mk (a++b).toArray:=by
 apply ByteArray.ext;rw[ByteArray.data_append];simp
structure Rok (l:List Hg.Row):Prop where
 len:l.length≤1000000000
 sum:Hg.BF l≤100000000
 kids:∀(j:Nat) (r:Hg.Row),l[j]? =some r→r.node.kids.length≤100000000
 kind:∀(j:Nat) (r:Hg.Row),l[j]? =some r→r.node.kind≤255
 name:∀(j:Nat) (r:Hg.Row),l[j]? =some r→r.node.name.length≤1000000000
 num:∀(j:Nat) (r:Hg.Row),l[j]? =some r→r.node.num≤9223372036854775807
theorem Rok.Ws{l:List Hg.Row}(h:Rok l):∀(j:Nat) (r:Hg.Row),l[j]? =some r→r.node.kids.length≤1000000000:=fun j r hr=>by have:=h.kids j r hr;omega
theorem Rok.nkind{l:List Hg.Row}(h:Rok l)(id:Nat):(Hg.AL l id).kind≤255:=by
 cases hk:Hg.atI l id with
 |none=>rw[Hg.Cw l id hk];simp[Hg.Node.zero]
 |some k=>rw[Hg.DR l id k hk];exact h.kind k _ (D6 hk)
theorem Rok.nkids{l:List Hg.Row}(h:Rok l)(id:Nat):(Hg.AL l id).kids.length≤100000000:=by
 cases hk:Hg.atI l id with
 |none=>rw[Hg.Cw l id hk];simp[Hg.Node.zero]
 |some k=>rw[Hg.DR l id k hk];exact h.kids k _ (D6 hk)
@[reducible] def Ei(n:Hg.Node)(ka:Option Addr)(kc:Nat):Obj:=
 .cells #[.int .u8 (n.kind:Int),strV n.name,.int .i64 n.num,.int .u8 (n.type:Int),.int .u64 (n.ref:Int),.slice ka n.kids.length kc] 44
theorem boxes{w w1:World}{r:Hg.Row}{ka:Option Addr}{kc:Nat}(h:Below ((w.alloc (DN r ka kc)).alloc (Ei r.node ka kc)).heap.size ((w.alloc (DN r ka kc)).alloc (Ei r.node ka kc)) w1):
 w1.cell? ⟨w.heap.size,0,none⟩=some (.int .u64 (r.id:Int))∧w1.cell? ⟨w.heap.size+1,0,none⟩=some (.int .u8 (r.node.kind:Int))∧w1.cell? ⟨w.heap.size+1,1,none⟩=some (strV r.node.name)∧
 w1.cell? ⟨w.heap.size+1,2,none⟩=some (.int .i64 r.node.num)∧w1.cell? ⟨w.heap.size+1,3,none⟩=some (.int .u8 (r.node.type:Int))∧w1.cell? ⟨w.heap.size+1,4,none⟩=some (.int .u64 (r.node.ref:Int))∧
 w1.cell? ⟨w.heap.size+1,5,none⟩=some (.slice ka r.node.kids.length kc)∧w.heap.size+1 < w1.heap.size∧Below w.heap.size w w1:=by
 obtain⟨⟨k0,k1,k2,k3,k4,k5⟩,_,hs,hb⟩:=box6 h;obtain⟨⟨d0,_⟩,hs2,hb2⟩:=box7 hb;simp only[World.size_alloc] at k0 k1 k2 k3 k4 k5 hs;exact⟨d0,k0,k1,k2,k3,k4,k5,hs,hb2⟩
theorem Pj(l:List Hg.Row)(ks:List Nat)(m:Nat)(h:m < ks.length):Hg.classes l (ks.take (m+1))=Hg.classes l (ks.take m)++[Hg.BO (Hg.AL l ks[m]).kind]:=by
 unfold Hg.classes Hg.kindOf;rw[List.take_succ_eq_append_getElem h,List.map_append];rfl
theorem Lt(l:List Hg.Row)(ks:List Nat):(Hg.classes l ks).length=ks.length:=by simp[Hg.classes]
theorem Yy(r:Hg.Row)(h:r.node.type=1):Hg.sc3 r= !(Hg.CL r.node.kind):=by
 unfold Hg.sc3;rw[h];cases Hg.CL r.node.kind <;>decide
theorem Yx(r:Hg.Row)(h:r.node.type=2):Hg.sc3 r= !(Hg.CL r.node.kind):=by
 unfold Hg.sc3;rw[h];cases Hg.CL r.node.kind <;>decide
theorem Yz(r:Hg.Row)(h:r.node.type=0):Hg.sc3 r=Hg.CL r.node.kind:=by
 unfold Hg.sc3;rw[h];cases Hg.CL r.node.kind <;>decide
theorem Yw(r:Hg.Row)(h0:¬r.node.type=0)(h1:¬r.node.type=1)(h2:¬r.node.type=2):Hg.sc3 r=true:=by
 unfold Hg.sc3;cases Hg.CL r.node.kind <;>simp[h0,h1,h2]
theorem Mk(B:Nat)(v:Value)(l:List Hg.Row)(w:World)(hB:B≤w.heap.size)(hx:Aw w B v l)(hl:Rok l)(b:Bool)(hsh:Hg.shaped l=some b):
 Calls Tryz.prog 23 #[v] w fun e w'=>e= .returned (.bool b)∧Below w.heap.size w w':=by
 have hX:=zz hx;have HL:=zz hl;obtain⟨a,c,rfl⟩:=hx.form;have hlen:=hl.len;have T:=zz (UV B (.slice a l.length c) l w hB hX.out hlen hl.sum hl.Ws);clear hx hl;unfold Hg.shaped at hsh;cases htr:Hg.tree l
 ·rw[if_pos htr] at hsh
  injection hsh with hsh;rw[htr] at T;subst hsh;clear htr;go_enter Tryz.func23,Tryz.ntmps23
  go_wp2_with (go_at_call 59;refine T.out.mono ?_;rintro e w1 ⟨rfl,hb1⟩)
  go_ret;exact⟨rfl,hb1⟩
 rw[if_neg (by simp[htr])] at hsh;rw[htr] at T;have HSH:=zz hsh;clear htr hsh;go_enter Tryz.func23,Tryz.ntmps23
 go_wp2_with (go_at_call 59;refine T.out.mono ?_;rintro e w1 ⟨rfl,hb1⟩)
 have hI:=hb1
 go_loopw [23] (fun q wr=>∃(i:Nat),q= .int .i64 i∧i≤l.length∧Hg.Bp l (l.drop i)=Hg.Bp l l∧Below w.heap.size w wr) (fun q _=>l.length-(intOf q).toNat)
 case atStart=>exact⟨0,rfl,Nat.zero_le _,rfl,hI⟩
 case round=>
  obtain⟨i,rfl,hi,hg,hbw⟩:=hrel;have HG:=zz hg;clear hg hI hb1 T;obtain⟨wo,rfl⟩:∃wo:World,wo=wr:=⟨_,rfl⟩;by_cases hlt:i < l.length
  ·have hri:l[i]? =some l[i]:=AX hlt
   obtain⟨br,orr,ki,kci,rfl,_,hkid,d0,d1,d2,d3,d4,d5,d6⟩:=(hX.out.below hbw hB).at_ hri;have HK:=zz hkid;have hkl2:=HL.out.kids i l[i] hri;have hnl:=HL.out.name i l[i] hri;have hkd:=HL.out.kind i l[i] hri;have hnum:=HL.out.num i l[i] hri;have hstep:Hg.Bp l (l[i]::l.drop (i+1))=Hg.Bp l l:=by rw[←Au hlt];exact HG.out
   rw[Hg.Bp] at hstep;clear hkid hri HG;have HS:=zz hstep;clear hstep;generalize l[i]=r at d0 d1 d2 d3 d4 d5 d6 HK hkl2 hnl hkd hnum HS;have hBw:B≤wo.heap.size:=AO hB hbw.size;have hI2:=Below.refl ((wo.alloc (DN r ki kci)).alloc (Ei r.node ki kci)).heap.size ((wo.alloc (DN r ki kci)).alloc (Ei r.node ki kci));have HI2:=zz hI2;clear hI2;have TN:=fun x W h1 h2=>zz (Jf B (.slice (some ⟨br,orr,none⟩) l.length c) l x W h1 h2 hlen);go_wp2_with fail
   go_loopw [6,32] (fun p q wr=>∃(m:Nat),q= .int .i64 m∧m≤r.node.kids.length∧p=strV (Hg.classes l (r.node.kids.take m))∧Below ((wo.alloc (DN r ki kci)).alloc (Ei r.node ki kci)).heap.size ((wo.alloc (DN r ki kci)).alloc (Ei r.node ki kci)) wr) (fun _ q _=>r.node.kids.length-(intOf q).toNat)
   case atStart=>exact⟨0,rfl,Nat.zero_le _,rfl,HI2.out⟩
   case round=>
    obtain⟨m,rfl,hm,rfl,hbW⟩:=hrel;obtain⟨x0,y0,y1,y2,y3,y4,y5,hszW,hbbW⟩:=boxes hbW;have hbwW:Below w.heap.size w wr:=hbw.trans (hbbW.mono hbw.size);have hBW:B≤wr.heap.size:=AO hB hbwW.size;by_cases hlm:m < r.node.kids.length
    ·obtain⟨b3,o3,rfl,_,kc3⟩:=(HK.out.below hbbW hBw).idAt hlm
     have hcs:=zz (Pj l r.node.kids m hlm);have hcl:(Hg.classes l (r.node.kids.take m)).length≤100000000:=by rw[Lt];simp;omega
     have hcl2:¬9223372036854775807 < (Hg.classes l (r.node.kids.take m)).length+1:=by omega
     have hkx:=HL.out.nkind r.node.kids[m];have T1:=fun W h1 h2=>TN r.node.kids[m] W h1 h2;generalize r.node.kids[m]=x at kc3 hcs hkx T1;generalize Hg.AL l x=nx at hcs hkx T1
     go_wp2_with (first
      |(go_at_call 61;refine((T1 _ hBW (hX.out.below hbwW hB)).out).mono ?_;rintro e w4 ⟨kx,cx,rfl,_,hb4⟩)
      |(go_at_call 60;refine(RN nx.kind hkx _).mono ?_;rintro e w' ⟨rfl,rfl⟩))
     go_roundw
     case rel=>exact⟨m+1,by go_num,by omega,by rw[hcs.out],hbW.trans (hb4.mono hbW.size)⟩
     case measure=>simp[intOf];omega
    ·obtain rfl:m=r.node.kids.length:=by omega
     rw[List.take_length];have hcl:(Hg.classes l r.node.kids).length≤100000000:=by rw[Lt];omega
     generalize hcs:Hg.classes l r.node.kids=cs at hcl;have HCS:=zz hcs;clear hcs;go_upto_region 14 with(go_at_call 62;refine(R3 B _ l r.id _ hBW (hX.out.below hbwW hB) hlen HL.out.Ws).mono ?_;rintro e w5 ⟨rfl,hb5⟩);have hbW5:=hbW.trans (hb5.mono hbW.size);clear x0 y0 y1 y2 y3 y4 y5 hszW;obtain⟨x0,y0,y1,y2,y3,y4,y5,hszW,hbbW5⟩:=boxes hbW5;have hbw5:Below w.heap.size w w5:=hbw.trans (hbbW5.mono hbw.size);have hB5:B≤w5.heap.size:=AO hB hbw5.size;have hR5:=hX.out.below hbw5 hB;have HR5:=zz hR5;clear hR5
     go_cut [79] from 24 to 183 (fun tv wx=>tv= .bool (Hg.sc1 l r)∧Below ((wo.alloc (DN r ki kci)).alloc (Ei r.node ki kci)).heap.size ((wo.alloc (DN r ki kci)).alloc (Ei r.node ki kci)) wx)
     case first=>as_aux_lemma=>
      have q1:decide ((r.node.kind:Int) < 1)=decide (r.node.kind < 1):=by rw[decide_eq_decide];omega
      have q2:decide ((20:Int) < (r.node.kind:Int))=decide (20 < r.node.kind):=by rw[decide_eq_decide];omega
      have q3:((r.node.kind:Int)==1)=decide (r.node.kind=1):=by rw[Bool.eq_iff_iff];simp;omega
      have q4:((r.id:Int)==1)=decide (r.id=1):=by rw[Bool.eq_iff_iff];simp;omega
      have hs:Hg.sc1 l r=(decide (r.node.kind < 1)||(decide (20 < r.node.kind)||((decide (r.node.kind=1) !=decide (r.id=1))|| !Hg.fits r.node.kind cs (decide (Hg.kindOf l (Hg.parentOf l r.id).1=3))))):=by
       unfold Hg.sc1;rw[HCS.out,Bool.eq_iff_iff];simp
      generalize decide (r.node.kind < 1)=c1 at q1 hs;generalize decide (20 < r.node.kind)=c2 at q2 hs;generalize decide (r.node.kind=1)=c3 at q3 hs;generalize decide (r.id=1)=c4 at q4 hs;cases c1 <;>cases c2 <;>cases c3 <;>cases c4
      all_goals
       first
        | (have hsc := zz (hs.trans rfl : Hg.sc1 l r = true)
           clear hs
           go_quiet (fail)
           go_wp2
           go_meet
           case rel=>exact⟨by rw[hsc.out],below_drewN hbW5 _⟩)
        | (have hfit := SY r.node.kind hkd cs (by omega) (decide (Hg.kindOf l (Hg.parentOf l r.id).1 = 3))
           have HFIT:=zz hfit;have HSC:=zz hs;clear hfit hs;have T2:=fun W h1 h2=>TN (Hg.parentOf l r.id).1 W h1 h2;unfold Hg.kindOf at HFIT HSC;generalize Hg.AL l (Hg.parentOf l r.id).1=nu at HFIT HSC T2;have hu:((nu.kind:Int)==3)=decide (nu.kind=3):=by (rw[Bool.eq_iff_iff];simp only[beq_iff_eq,decide_eq_true_eq];omega)
           go_region_held3 (fun w'=>w'.cell? ⟨wo.heap.size,0,none⟩=some (.int .u64 (r.id:Int))∧w'.cell? ⟨wo.heap.size+1,0,none⟩=some (.int .u8 (r.node.kind:Int))) (first|exact⟨x0,y0⟩|exact⟨x0',y0'⟩|exact⟨x0'',y0''⟩) (first|(go_at_call 61;refine((T2 w5.drew hB5 HR5.out).out).mono ?_;rintro e w6 ⟨kx,cx,rfl,_,hb6⟩;have hbW6:=hbW5.drew.trans (hb6.mono hbW5.size);obtain⟨x0',y0',_,_,_,_,_,_,_⟩:=boxes hbW6)|(go_at_call 63;refine(HFIT.out _).mono ?_;rintro e w7 ⟨rfl,hb7⟩;have hbW7:=hbW6.trans (hb7.mono hbW6.size);obtain⟨x0'',y0'',_,_,_,_,_,_,_⟩:=boxes hbW7))
           go_wp2
           go_meet
           case rel=>exact⟨by rw[HSC.out];rfl,hbW7⟩)
     case rest=>as_aux_lemma=>
      obtain⟨rfl,hbc⟩:=hcut;clear x0 y0 y1 y2 y3 y4 y5 hszW hbbW5 hbW5 hb5 hbW HR5 hB5 hbw5 hbwW hBW hbbW HCS hcl;obtain⟨x0,y0,y1,y2,y3,y4,y5,hszC,hbbC⟩:=boxes hbc;have hbwC:Below w.heap.size w wc:=hbw.trans (hbbC.mono hbw.size);have hrw:=Hg.Gv l r hnum;have hbad:Hg.Bo l r=false→b=false:=fun h=>by
       have h1:=HS.out;rw[if_pos h] at h1;have h2:=HSH.out;rw[if_pos h1.symm] at h2;injection h2 with h2;exact h2.symm
      have hgood:Hg.Bo l r=true→Hg.Bp l (l.drop (i+1))=Hg.Bp l l:=fun h=>by
       have h1:=HS.out;rw[if_neg (by simp[h])] at h1;exact h1
      rw[hrw] at hbad hgood;have HBAD:=zz hbad;have HGOOD:=zz hgood;clear hrw hbad hgood HS;obtain⟨wd,rfl⟩:∃x:World,x=wc:=⟨_,rfl⟩;cases hs1:Hg.sc1 l r;rotate_left
      ·have HF:=zz (HBAD.out (by rw[hs1];rfl))
       clear hs1;go_wp2;go_ret;exact⟨AQ HF.out.symm,hbwC⟩
      have HS1:=zz hs1;clear hs1;go_upto_region 16 with fail
      go_cut [11] from 24 to 183 (fun tv wx=>tv= .bool (Hg.isNamed r.node.kind)∧wd=wx)
      case first=>as_aux_lemma=>
       have e:∀b:Nat,((r.node.kind:Int)==(b:Int))=decide (r.node.kind=b):=fun b=>by rw[Bool.eq_iff_iff];simp;omega
       have q1:((r.node.kind:Int)==2)=_:=e 2;have q2:((r.node.kind:Int)==3)=_:=e 3;have q3:((r.node.kind:Int)==4)=_:=e 4;have q4:((r.node.kind:Int)==6)=_:=e 6;have hs:Hg.isNamed r.node.kind=(decide (r.node.kind=2)||(decide (r.node.kind=3)||(decide (r.node.kind=4)||decide (r.node.kind=6)))):=by unfold Hg.isNamed;simp[Bool.or_assoc]
       clear e;generalize decide (r.node.kind=2)=c1 at q1 hs;generalize decide (r.node.kind=3)=c2 at q2 hs;generalize decide (r.node.kind=4)=c3 at q3 hs;generalize decide (r.node.kind=6)=c4 at q4 hs;cases c1 <;>cases c2 <;>cases c3 <;>cases c4
       all_goals
        have hn:=zz (hs.trans rfl);clear hs;go_wp2
        go_meet
        case rel=>exact⟨by rw[hn.out];rfl,rfl⟩
      case rest=>
       obtain⟨rfl,rfl⟩:=hcut;go_upto_region 17 with fail
       go_cut [11,116] from 24 to 183 (fun nv tv wx=>nv= .bool (Hg.isNamed r.node.kind)∧tv= .bool (Hg.sc2 r)∧Below ((wo.alloc (DN r ki kci)).alloc (Ei r.node ki kci)).heap.size ((wo.alloc (DN r ki kci)).alloc (Ei r.node ki kci)) wx)
       case first=>as_aux_lemma=>
        cases hnm:Hg.isNamed r.node.kind
        ·by_cases hne:r.node.name=[]
         ·have hsc:=zz (show Hg.sc2 r=false by unfold Hg.sc2;rw[hnm,hne];rfl)
          have q1:(r.node.name !=[])=false:=by simp[hne]
          have HN:=zz hnm;clear hnm;go_wp2
          go_meet
          case rel=>exact⟨by rw[HN.out],by rw[hsc.out],hbc⟩
         ·have hsc:=zz (show Hg.sc2 r=true by unfold Hg.sc2;rw[hnm];simp[hne])
          have q1:(r.node.name !=[])=true:=by simp[hne]
          have HN:=zz hnm;clear hnm;go_wp2
          go_meet
          case rel=>exact⟨by rw[HN.out],by rw[hsc.out],hbc⟩
        ·by_cases hne:r.node.name=[]
         ·have hsc:=zz (show Hg.sc2 r=true by unfold Hg.sc2;rw[hnm,hne];rfl)
          have q1:(r.node.name !=[])=false:=by simp[hne]
          have HN:=zz hnm;clear hnm;go_wp2
          go_meet
          case rel=>exact⟨by rw[HN.out],by rw[hsc.out],hbc⟩
         ·have q1:(r.node.name !=[])=true:=by simp[hne]
          cases hr8:Hg.Cb r.node.name
          ·have hsc:=zz (show Hg.sc2 r=true by unfold Hg.sc2;rw[hnm,hr8];simp)
           have H8:=zz hr8;have HN:=zz hnm;clear hnm hr8
           go_wp2_with (go_at_call 64;refine(Gb _ hnl _).mono ?_;rintro e w' ⟨rfl,rfl⟩;rw[H8.out])
           go_meet
           case rel=>exact⟨by rw[HN.out],by rw[hsc.out],hbc⟩
          ·have hsc:=zz (show Hg.sc2 r=Hg.inL Hg.words r.node.name by unfold Hg.sc2;rw[hnm,hr8];simp[hne])
           have H8:=zz hr8;have HN:=zz hnm;clear hnm hr8
           go_wp2_with (first
            |(go_at_call 64;refine(Gb _ hnl _).mono ?_;rintro e w' ⟨rfl,rfl⟩;rw[H8.out])
            |(go_at_call 65;refine(Re _ _).mono ?_;rintro e w6 ⟨rfl,hb6⟩;have hbW6:=hbc.trans (hb6.mono hbc.size)))
           go_meet
           case rel=>exact⟨by rw[HN.out],by rw[hsc.out,show r.node.name.isEmpty=false by simp[hne]];rfl,hbW6⟩
       case rest=>as_aux_lemma=>
        obtain⟨rfl,rfl,hbc2⟩:=hcut;clear x0 y0 y1 y2 y3 y4 y5 hszC hbwC;obtain⟨x0,y0,y1,y2,y3,y4,y5,hszC,hbbC2⟩:=boxes hbc2;have hbwC:Below w.heap.size w wc:=hbw.trans (hbbC2.mono hbw.size);clear hbc hbbC;obtain⟨wd2,rfl⟩:∃x:World,x=wc:=⟨_,rfl⟩;cases hs2:Hg.sc2 r;rotate_left
        ·have HF:=zz (HBAD.out (by rw[HS1.out,hs2];rfl))
         clear hs2;go_wp2;go_ret;exact⟨AQ HF.out.symm,hbwC⟩
        have HS2:=zz hs2;clear hs2;go_upto_region 19 with fail
        go_cut [11,12] from 24 to 183 (fun nv tv wx=>nv= .bool (Hg.isNamed r.node.kind)∧tv= .bool (Hg.CL r.node.kind)∧wd2=wx)
        case first=>as_aux_lemma=>
         cases hnm:Hg.isNamed r.node.kind
         ·have hn:=zz (show Hg.CL r.node.kind=false by unfold Hg.CL;rw[hnm];rfl)
          have HN:=zz hnm;clear hnm;go_wp2
          go_meet
          case rel=>exact⟨by rw[HN.out],by rw[hn.out],rfl⟩
         ·by_cases k2:r.node.kind=2
          ·have hn:=zz (show Hg.CL r.node.kind=false by unfold Hg.CL;rw[k2];rfl)
           have q1:((r.node.kind:Int) !=2)=false:=by simp[k2]
           have HN:=zz hnm;clear hnm k2;go_wp2
           go_meet
           case rel=>exact⟨by rw[HN.out],by rw[hn.out],rfl⟩
          ·have hn:=zz (show Hg.CL r.node.kind=true by unfold Hg.CL;rw[hnm];simp[k2])
           have q1:((r.node.kind:Int) !=2)=true:=by simp;omega
           have HN:=zz hnm;clear hnm k2;go_wp2
           go_meet
           case rel=>exact⟨by rw[HN.out],by rw[hn.out],rfl⟩
        case rest=>
         obtain⟨rfl,rfl,rfl⟩:=hcut;go_upto_region 20 with fail
         go_cut [12,141] from 24 to 183 (fun nv tv wx=>nv= .bool (Hg.CL r.node.kind)∧tv= .bool (Hg.sc3 r)∧wd2=wx)
         case first=>as_aux_lemma=>
          cases hty:Hg.CL r.node.kind
          all_goals
           have HN:=zz hty;by_cases t1:r.node.type=1
           ·have hsc:=zz ((Yy r t1).trans (congrArg not hty))
            have q1:((r.node.type:Int)==1)=true:=by simp[t1]
            clear hty t1;go_wp2
            go_meet
            case rel=>exact⟨by rw[HN.out],by rw[hsc.out] <;>rfl,rfl⟩
           have q1:((r.node.type:Int)==1)=false:=by simp;omega
           by_cases t2:r.node.type=2
           ·have hsc:=zz ((Yx r t2).trans (congrArg not hty))
            have q2:((r.node.type:Int)==2)=true:=by simp[t2]
            clear hty t1 t2;go_wp2
            go_meet
            case rel=>exact⟨by rw[HN.out],by rw[hsc.out] <;>rfl,rfl⟩
           have q2:((r.node.type:Int)==2)=false:=by simp;omega
           by_cases t0:r.node.type=0
           ·have hsc:=zz ((Yz r t0).trans hty)
            have q3:((r.node.type:Int) !=0)=false:=by simp[t0]
            clear hty t1 t2 t0;go_wp2
            go_meet
            case rel=>exact⟨by rw[HN.out],by rw[hsc.out] <;>rfl,rfl⟩
           have q3:((r.node.type:Int) !=0)=true:=by simp;omega
           have hsc:=zz (Yw r t0 t1 t2);clear hty t1 t2 t0;go_wp2
           go_meet
           case rel=>exact⟨by rw[HN.out],by rw[hsc.out] <;>rfl,rfl⟩
         case rest=>as_aux_lemma=>
          obtain⟨rfl,rfl,rfl⟩:=hcut;cases hs3:Hg.sc3 r;rotate_left
          ·have HF:=zz (HBAD.out (by rw[HS1.out,HS2.out,hs3];rfl))
           clear hs3;go_wp2;go_ret;exact⟨AQ HF.out.symm,hbwC⟩
          have HS3:=zz hs3;clear hs3;have hBC:B≤wd2.heap.size:=AO hB hbwC.size;have hRC:=zz (hX.out.below hbwC hB);have T3:=zz ((TN r.node.ref wd2 hBC hRC.out).out);have hsc4:Hg.sc4 l r=(if r.node.kind=7∨r.node.kind=15 then decide ((Hg.AL l r.node.ref).kind≠4∧(Hg.AL l r.node.ref).kind≠6) else if r.node.kind=19 then decide ((Hg.AL l r.node.ref).kind≠3) else decide (r.node.ref≠0)):=rfl;have HSC4:=zz hsc4;clear hsc4;generalize Hg.AL l r.node.ref=nt at T3 HSC4
          go_upto_block 4 with(go_at_call 61;refine T3.out.mono ?_;rintro e w6 ⟨kx,cx,rfl,_,hb6⟩;have hbW6:=hbc2.trans (hb6.mono hbc2.size);clear x0 y0 y1 y2 y3 y4 y5;obtain⟨x0,y0,y1,y2,y3,y4,y5,_,hbb6⟩:=boxes hbW6)
          have hbw6:Below w.heap.size w w6:=hbw.trans (hbb6.mono hbw.size)
          go_cut [] from 24 to 183 (fun wx=>Hg.sc4 l r=false∧w6=wx)
          case first=>as_aux_lemma=>
           by_cases k15:r.node.kind=7∨r.node.kind=15
           ·have e:∀(a b:Nat),((a:Int) !=(b:Int))=decide (a≠b):=fun a b=>by rw[Bool.eq_iff_iff];simp;omega
            have p4:((nt.kind:Int) !=4)=_:=e nt.kind 4;have p6:((nt.kind:Int) !=6)=_:=e nt.kind 6;have hs:Hg.sc4 l r=(decide (nt.kind≠4) && decide (nt.kind≠6)):=by rw[HSC4.out,if_pos k15,Bool.decide_and]
            clear e;generalize decide (nt.kind≠4)=c1 at p4 hs;generalize decide (nt.kind≠6)=c2 at p6 hs;rcases k15 with k|k
            case' inl=>have q7:((r.node.kind:Int)==7)=true:=by simp[k]
            case' inr=>
             have q7:((r.node.kind:Int)==7)=false:=by simp[k]
             have q15:((r.node.kind:Int)==15)=true:=by simp[k]
            all_goals
             clear k;cases c1 <;>cases c2
             all_goals
              have HSC:=zz (hs.trans rfl);clear hs
              first
               | (have HF := zz (HBAD.out (by rw [HS1.out, HS2.out, HS3.out, HSC.out]; rfl))
                  go_wp2;go_ret;exact⟨AQ HF.out.symm,hbw6⟩)
               | (go_wp2
                  go_meet
                  case rel=>exact⟨HSC.out,rfl⟩)
           have q7:((r.node.kind:Int)==7)=false:=by simp;omega
           have q15:((r.node.kind:Int)==15)=false:=by simp;omega
           by_cases k19:r.node.kind=19
           ·have q19:((r.node.kind:Int)==19)=true:=by simp[k19]
            by_cases n3:nt.kind=3
            ·have p3:((nt.kind:Int) !=3)=false:=by simp[n3]
             have hsc:Hg.sc4 l r=false:=by rw[HSC4.out,if_neg (by omega),if_pos k19,decide_eq_false (by omega)]
             have HSC:=zz hsc;clear hsc k15 k19 n3;go_wp2
             go_meet
             case rel=>exact⟨HSC.out,rfl⟩
            have p3:((nt.kind:Int) !=3)=true:=by simp;omega
            have hsc:Hg.sc4 l r=true:=by rw[HSC4.out,if_neg (by omega),if_pos k19,decide_eq_true n3]
            have HF:=zz (HBAD.out (by rw[HS1.out,HS2.out,HS3.out,hsc];rfl));clear hsc k15 k19 n3;go_wp2;go_ret;exact⟨AQ HF.out.symm,hbw6⟩
           have q19:((r.node.kind:Int)==19)=false:=by simp;omega
           by_cases n0:r.node.ref=0
           ·have p0:((r.node.ref:Int) !=0)=false:=by simp[n0]
            have hsc:Hg.sc4 l r=false:=by rw[HSC4.out,if_neg (by omega),if_neg (by omega),decide_eq_false (by omega)]
            have HSC:=zz hsc;clear hsc k15 k19 n0;go_wp2
            go_meet
            case rel=>exact⟨HSC.out,rfl⟩
           have p0:((r.node.ref:Int) !=0)=true:=by simp;omega
           have hsc:Hg.sc4 l r=true:=by rw[HSC4.out,if_neg (by omega),if_neg (by omega),decide_eq_true n0]
           have HF:=zz (HBAD.out (by rw[HS1.out,HS2.out,HS3.out,hsc];rfl));clear hsc k15 k19 n0;go_wp2;go_ret;exact⟨AQ HF.out.symm,hbw6⟩
          case rest=>
           obtain⟨hs4,rfl⟩:=hcut;have HS4:=zz hs4;clear hs4 HSC4 T3
           go_upto_block 5 with fail
           go_cut [14,15] from 24 to 183 (fun lv hv wx=>lv= .int .i64 (Hg.E9 r.node.kind)∧hv= .int .i64 (Hg.EJ r.node.kind)∧w6=wx)
           case first=>as_aux_lemma=>
            obtain⟨l13,l14,l18,lo⟩:=Hg.PT r.node.kind;by_cases k13:r.node.kind=13
            ·have HLH:=zz (l13 k13)
             have q1:((r.node.kind:Int)==13)=true:=by simp[k13]
             clear l13 l14 l18 lo k13;go_wp2
             go_meet
             case rel=>exact⟨by rw[HLH.out.1],by rw[HLH.out.2],rfl⟩
            have q1:((r.node.kind:Int)==13)=false:=by simp;omega
            by_cases k14:r.node.kind=14
            ·have HLH:=zz (l14 k14)
             have q2:((r.node.kind:Int)==14)=true:=by simp[k14]
             clear l13 l14 l18 lo k13 k14;go_wp2
             go_meet
             case rel=>exact⟨by rw[HLH.out.1],by rw[HLH.out.2],rfl⟩
            have q2:((r.node.kind:Int)==14)=false:=by simp;omega
            by_cases k18:r.node.kind=18
            ·have HLH:=zz (l18 k18)
             have q3:((r.node.kind:Int)==18)=true:=by simp[k18]
             clear l13 l14 l18 lo k13 k14 k18;go_wp2
             go_meet
             case rel=>exact⟨by rw[HLH.out.1],by rw[HLH.out.2],rfl⟩
            have q3:((r.node.kind:Int)==18)=false:=by simp;omega
            have HLH:=zz (lo ⟨k13,k14,k18⟩);clear l13 l14 l18 lo k13 k14 k18;go_wp2
            go_meet
            case rel=>exact⟨by rw[HLH.out.1],by rw[HLH.out.2],rfl⟩
           case rest=>
            obtain⟨rfl,rfl,rfl⟩:=hcut;by_cases m1:r.node.num < Hg.E9 r.node.kind
            ·have HF:=zz (HBAD.out (by rw[HS1.out,HS2.out,HS3.out,HS4.out,show Hg.sc5 r=true from decide_eq_true (.inl m1)];rfl))
             have q1:decide (r.node.num < Hg.E9 r.node.kind)=true:=decide_eq_true m1;clear m1;go_wp2;go_ret;exact⟨AQ HF.out.symm,hbw6⟩
            have q1:decide (r.node.num < Hg.E9 r.node.kind)=false:=decide_eq_false m1;by_cases m2:Hg.EJ r.node.kind < r.node.num
            ·have HF:=zz (HBAD.out (by rw[HS1.out,HS2.out,HS3.out,HS4.out,show Hg.sc5 r=true from decide_eq_true (.inr m2)];rfl))
             have q2:decide (Hg.EJ r.node.kind < r.node.num)=true:=decide_eq_true m2;clear m1 m2;go_wp2;go_ret;exact⟨AQ HF.out.symm,hbw6⟩
            have q2:decide (Hg.EJ r.node.kind < r.node.num)=false:=decide_eq_false m2;have HN:=zz (HGOOD.out (by rw[HS1.out,HS2.out,HS3.out,HS4.out,show Hg.sc5 r=false from decide_eq_false (by omega)];rfl));clear m1 m2;go_wp2;go_roundw
            case rel=>
             first
             |exact⟨i+1,by go_num,by omega,HN.out,hbw6⟩
             | (repeat apply Exists.intro
                refine And.intro ?aa ?bb
                case bb=>repeat' first|exact rfl|apply And.intro
                case aa=>exact⟨i+1,by go_num,by omega,HN.out,hbw6⟩)
            case measure=>simp[intOf];omega
  ·obtain rfl:i=l.length:=by omega
   have hsd:Hg.Bv l l=some b:=by
    have h1:=HG.out;rw[List.drop_length,Hg.Bp] at h1;have h2:=HSH.out;rw[if_neg (by rw[←h1];simp)] at h2;exact h2
   have HSD:=zz hsd;have hI:=hbw;clear hsd HG HSH hlt;go_wp2_with fail
   go_loopw [186] (fun q wr=>∃(i:Nat),q= .int .i64 i∧i≤l.length∧Hg.Bv l (l.drop i)=some b∧Below w.heap.size w wr) (fun q _=>l.length-(intOf q).toNat)
   case atStart=>exact⟨0,rfl,Nat.zero_le _,HSD.out,hI⟩
   case round=>
    obtain⟨i,rfl,hi,hg,hbw⟩:=hrel;have HG:=zz hg;clear hg hI HSD;by_cases hlt:i < l.length
    ·have hri:l[i]? =some l[i]:=AX hlt
     obtain⟨br,orr,ki,kci,rfl,_,_,d0,d1,d2,d3,d4,d5,d6⟩:=(hX.out.below hbw hB).at_ hri;have hstep:Hg.Bv l (l[i]::l.drop (i+1))=some b:=by rw[←Au hlt];exact HG.out
     rw[Hg.Bv] at hstep;clear hri HG;generalize l[i]=r at d0 d1 d2 d3 d4 d5 d6 hstep;have hbx:Below w.heap.size w (wr.alloc (DN r ki kci)):=hbw.alloc hbw.size _;have hBw:B≤(wr.alloc (DN r ki kci)).heap.size:=AO hB hbx.size;by_cases k3:r.node.kind=3
     ·rw[if_pos k3] at hstep
      have q1:((r.node.kind:Int)==3)=true:=by simp[k3]
      cases hd:Hg.DU l 201 r.id with
      |none=>rw[hd] at hstep;cases hstep
      |some d=>
        rw[hd] at hstep;dsimp only at hstep;have hdl:=LQ l 201 r.id d hd;have TD:=zz (RI B _ l hlen HL.out.Ws 201 r.id d (wr.alloc (DN r ki kci)) (by omega) hBw (hX.out.below hbx hB) hd);by_cases h9:90 < d
        ·rw[if_pos h9] at hstep
         injection hstep with hstep;have HF:=zz hstep;have q2:decide ((90:Int) < (d:Int))=true:=by simp;omega
         clear hstep h9 k3 hd
         go_wp2_with (go_at_call 66;refine TD.out.mono ?_;rintro e w6 ⟨rfl,hb6⟩)
         go_ret;exact⟨AQ HF.out,hbx.trans (hb6.mono hbx.size)⟩
        ·rw[if_neg h9] at hstep
         have HF:=zz hstep;have q2:decide ((90:Int) < (d:Int))=false:=by simp;omega
         clear hstep h9 k3 hd
         go_wp2_with (go_at_call 66;refine TD.out.mono ?_;rintro e w6 ⟨rfl,hb6⟩)
         go_roundw
         case rel=>exact⟨i+1,by go_num,by omega,HF.out,hbx.trans (hb6.mono hbx.size)⟩
         case measure=>simp[intOf];omega
     ·rw[if_neg k3] at hstep
      have HF:=zz hstep;have q1:((r.node.kind:Int)==3)=false:=by simp;omega
      clear hstep k3;go_wp2;go_roundw
      case rel=>exact⟨i+1,by go_num,by omega,HF.out,hbx⟩
      case measure=>simp[intOf];omega
    ·obtain rfl:i=l.length:=by omega
     have hbt:true=b:=by
      have h1:=HG.out;rw[List.drop_length,Hg.Bv] at h1;injection h1
     have HF:=zz hbt;clear hbt HG;go_wp2;go_ret;exact⟨AQ HF.out,hbw⟩
@[reducible] def wkV(al:Hg.Alls):Value:= .agg #[.bool al.clash,.bool al.vis.hidden,.bool al.vis.wrong,.int .u64 0,.slice none 0 0,.bool false]
theorem Ru(B:Nat)(v:Value)(l:List Hg.Row)(w:World)(hB:B≤w.heap.size)(hx:Aw w B v l)(hl:Rok l)
 (hAll:∀W al,B≤W.heap.size→Aw W B v l→Hg.shaped l=some true→Hg.IA l=some al→Calls Tryz.prog 24 #[v,.int .u64 0] W fun e w'=>e= .returned (wkV al)∧Below W.heap.size W w')
 (r:Nat) (hr:Hg.D5 l=some r):Calls Tryz.prog 9 #[v] w fun e w'=>e= .returned (.int .i64 (r:Int))∧Below w.heap.size w w':=by
 have HX:=zz hx;have HA:=zz hAll;unfold Hg.D5 at hr;obtain⟨a,c,rfl⟩:=hx.form;clear hx hAll;cases hs:Hg.shaped l with
 |none=>rw[hs] at hr;cases hr
 |some b=>
   rw[hs] at hr;have TS:=zz (Mk B _ l w hB HX.out hl b hs);cases b with
   |false=>
     dsimp only at hr;injection hr with hr;subst hr;go_enter Tryz.func9,Tryz.ntmps9
     go_wp2_with (go_at_call 23;refine TS.out.mono ?_;rintro e w1 ⟨rfl,hb1⟩)
     go_ret;exact⟨rfl,hb1⟩
   |true=>
     dsimp only at hr;cases ha:Hg.IA l with
     |none=>rw[ha] at hr;cases hr
     |some al=>
       rw[ha] at hr;dsimp only at hr;injection hr with hr;have HR:=zz hr;have TA:=fun W h1 h2=>zz (HA.out W al h1 h2 hs ha);have TM:=fun W h1 h2=>zz (SF B (.slice a l.length c) l W h1 h2 hl.len (fun x=>hl.nkids x));clear hr hs ha HA;generalize Hg.IX l=mn at HR TM;obtain⟨cl,⟨hd,wr⟩⟩:=al;cases cl with
       |true=>
         obtain rfl:10=r:=HR.out;go_enter Tryz.func9,Tryz.ntmps9;go_wp2_with fail;refine TS.out.mono ?_;rintro e w1 ⟨rfl,hb1⟩;go_wp2_with fail;refine(TA w1 (AO hB hb1.size) (HX.out.below hb1 hB)).out.mono ?_;rintro e w2 ⟨rfl,hb2⟩;go_wp2;go_ret;exact⟨rfl,(hb1.trans (hb2.mono hb1.size)).alloc (hb1.trans (hb2.mono hb1.size)).size _⟩
       |false=>
         cases hd with
         |true=>
           obtain rfl:9=r:=HR.out;go_enter Tryz.func9,Tryz.ntmps9;go_wp2_with fail;refine TS.out.mono ?_;rintro e w1 ⟨rfl,hb1⟩;go_wp2_with fail;refine(TA w1 (AO hB hb1.size) (HX.out.below hb1 hB)).out.mono ?_;rintro e w2 ⟨rfl,hb2⟩;go_wp2;go_ret;exact⟨rfl,(hb1.trans (hb2.mono hb1.size)).alloc (hb1.trans (hb2.mono hb1.size)).size _⟩
         |false=>
           cases wr with
           |true=>
             obtain rfl:11=r:=HR.out;go_enter Tryz.func9,Tryz.ntmps9;go_wp2_with fail;refine TS.out.mono ?_;rintro e w1 ⟨rfl,hb1⟩;go_wp2_with fail;refine(TA w1 (AO hB hb1.size) (HX.out.below hb1 hB)).out.mono ?_;rintro e w2 ⟨rfl,hb2⟩;go_wp2;go_ret;exact⟨rfl,(hb1.trans (hb2.mono hb1.size)).alloc (hb1.trans (hb2.mono hb1.size)).size _⟩
           |false=>
             go_enter Tryz.func9,Tryz.ntmps9;go_wp2_with fail;refine TS.out.mono ?_;rintro e w1 ⟨rfl,hb1⟩;go_wp2_with fail;refine(TA w1 (AO hB hb1.size) (HX.out.below hb1 hB)).out.mono ?_;rintro e w2 ⟨rfl,hb2⟩;have hbx:Below w.heap.size w (w2.alloc (.cells #[.bool false,.bool false,.bool false,.int .u64 0,.slice none 0 0,.bool false] 56)):=(hb1.trans (hb2.mono hb1.size)).alloc (hb1.trans (hb2.mono hb1.size)).size _;by_cases h0:mn=0
             ·have hr:3=r:=by have:=HR.out;simpa[h0] using this
              subst hr;have q0:((mn:Int)==0)=true:=by simp[h0]
              clear h0;go_wp2_with fail;refine(TM _ (AO hB hbx.size) (HX.out.below hbx hB)).out.mono ?_;rintro e w3 ⟨rfl,hb3⟩;go_wp2;go_ret;exact⟨rfl,hbx.trans (hb3.mono hbx.size)⟩
             ·have hr:0=r:=by have:=HR.out;simpa[h0] using this
              subst hr;have q0:((mn:Int)==0)=false:=by simp;omega
              clear h0;go_wp2_with fail;refine(TM _ (AO hB hbx.size) (HX.out.below hbx hB)).out.mono ?_;rintro e w3 ⟨rfl,hb3⟩;go_wp2;go_ret;exact⟨rfl,hbx.trans (hb3.mono hbx.size)⟩
theorem J4(l:List Hg.Row):∀(rs:List Hg.Row),Hg.Bp l rs=true→∀r∈rs,Hg.Bo l r=true
 |[],_,r,hr=>by simp at hr
 |x::rs,h,r,hr=>by
   rw[Hg.Bp] at h;by_cases hx:Hg.Bo l x=false
   ·rw[if_pos hx] at h;cases h
   ·rw[if_neg hx] at h
    rcases List.mem_cons.1 hr with rfl|hr
    ·simpa using hx
    ·exact J4 l rs h r hr
theorem VG(n:Hg.Node)(l:List Hg.Row)(b:Bool)(h:Hg.fits n.kind (Hg.classes l n.kids) b=true):Pt n:=by
 have hc:(Hg.classes l n.kids).length=n.kids.length:=by simp[Hg.classes]
 unfold Hg.fits at h;refine⟨fun hk=> ?_,fun hk=> ?_⟩
 ·rcases hk with hk|hk|hk|hk|hk|hk|hk <;> · rw[hk] at h;simp at h;omega
 ·rw[hk] at h;simp at h;omega
theorem QL{l:List Hg.Row}(h:Hg.shaped l=some true)(x:Nat):Pt (Hg.AL l x):=by
 have hg:Hg.Bp l l=true:=by
  unfold Hg.shaped at h;by_cases h1:Hg.tree l=false
  ·rw[if_pos h1] at h;simp at h
  ·rw[if_neg h1] at h
   by_cases h2:Hg.Bp l l=false
   ·rw[if_pos h2] at h;simp at h
   ·simpa using h2
 cases hi:Hg.atI l x with
 |none=>
   rw[Hg.Cw l x hi];exact⟨fun hk=>by simp[Hg.Node.zero] at hk,fun hk=>by simp[Hg.Node.zero] at hk⟩
 |some k=>
   rw[Hg.DR l x k hi];have hr:Hg.rowAt l k∈l:=List.mem_of_getElem? (D6 hi);have hs:=J4 l l hg _ hr;unfold Hg.Bo at hs;dsimp only at hs;have hf:Hg.fits (Hg.rowAt l k).node.kind (Hg.classes l (Hg.rowAt l k).node.kids) (decide (Hg.kindOf l (Hg.parentOf l (Hg.rowAt l k).id).1=3))=true:=by
    cases hc:Hg.fits (Hg.rowAt l k).node.kind (Hg.classes l (Hg.rowAt l k).node.kids) (decide (Hg.kindOf l (Hg.parentOf l (Hg.rowAt l k).id).1=3)) with
    |true=>rfl
    |false=>rw[if_pos (.inr (.inr (.inr hc)))] at hs;cases hs
   exact VG _ _ _ hf
end Go.Proofs.YtijhlanclfajiaaGreatDoor
