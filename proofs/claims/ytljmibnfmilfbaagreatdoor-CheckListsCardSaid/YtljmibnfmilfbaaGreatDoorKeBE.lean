/-
  Part of the proof of CheckLists.
-/
import Derived.Test.YtljmibnfmilfbaaGreatDoorKeBD
import Derived.Test.YtljmibnfmilfbaaGreatDoorKeAZ
set_option linter.all false
set_option maxHeartbeats 32000000
set_option maxRecDepth 100000
namespace Hg
def rowM(rows:List Row):Nat→Option Node:=fun id=>(rows.find? (fun r=>r.id==id)).map Row.node
theorem Nc(ids:Nat→Nat)(b:Nat)(hb:∀b',ids b'=ids b→b'=b):∀refs:List (Nat×Nat),SS (refF ids refs) (ids b)=((gl refs b).map ids).getD 0
 |[]=>rfl
 |(x,y)::refs=>by
   have ih:=Nc ids b hb refs;rw[JB];unfold SS at ih⊢;show((((ids x,ids y)::refF ids refs).find? (·.1==ids b)).map (·.2)).getD 0=_;rw[List.find?_cons];by_cases e:x=b
   ·subst e
    simp
   ·have h1:(x==b)=false:=by simpa using e
    have h2:(ids x==ids b)=false:=by simpa using fun h=>e (hb _ h)
    simp only[h1,h2];exact ih
theorem Mt:∀(rows:List Row),(rows.map Row.id).Nodup→∀r∈rows,rows.find? (fun x=>x.id==r.id)=some r
 |[],_,r,h=>by simp at h
 |x::rows,hn,r,h=>by
   rw[List.map_cons,List.nodup_cons] at hn;rw[List.find?_cons];rcases List.mem_cons.1 h with h|h
   ·subst h;simp
   ·have:(x.id==r.id)=false:=by
     simp only[beq_eq_false_iff_ne,ne_eq];intro e;exact hn.1 (by rw[e];exact List.mem_map.2 ⟨r,h,rfl⟩)
    rw[this];exact Mt rows hn.2 r h
end Hg
namespace Go.Proofs.YtljmibnfmilfbaaGreatDoor
open Go.RowKit
open Hg (GT gl rowM)
theorem MC:∀(l:List Nat) (ids:Nat→Nat) (n:Nat) (b:Nat),b∉l→setN ids n l b=ids b
 |[],ids,n,b,h=>rfl
 |x::l,ids,n,b,h=>by
   show setN (upd ids x n) (n+1) l b=ids b;rw[MC l _ _ b (fun hm=>h (List.mem_cons_of_mem _ hm)),FX _ _ (fun e=>h (by rw[e];simp))]
theorem Fq:∀(l:List Nat) (ids:Nat→Nat) (n k b:Nat),l.Nodup→l[k]? =some b→setN ids n l b=n+k
 |[],ids,n,k,b,_,h=>by simp at h
 |x::l,ids,n,0,b,hn,h=>by
   simp at h;subst h;show setN (upd ids x n) (n+1) l x=n+0;rw[MC l _ _ x (List.nodup_cons.1 hn).1,upd_same];rfl
 |x::l,ids,n,k+1,b,hn,h=>by
   show setN (upd ids x n) (n+1) l b=n+(k+1);rw[Fq l _ (n+1) k b (List.nodup_cons.1 hn).2 (by simpa using h)];omega
theorem Ph{l:List Nat}(hn:l.Nodup){b b':Nat}(hb:b∈l)(h:setN id0 1 l b'=setN id0 1 l b):b'=b:=by
 obtain⟨k,hk,he⟩:=List.mem_iff_getElem.1 hb;have h1:l[k]? =some b:=by rw[List.getElem?_eq_getElem hk,he]
 rw[Fq l id0 1 k b hn h1] at h;by_cases hm:b'∈l
 ·obtain⟨k',hk',he'⟩:=List.mem_iff_getElem.1 hm
  have h2:l[k']? =some b':=by rw[List.getElem?_eq_getElem hk',he']
  rw[Fq l id0 1 k' b' hn h2] at h;have:k'=k:=by omega
  subst this;rw[h1] at h2;injection h2 with h2;exact h2.symm
 ·rw[MC l id0 1 b' hm] at h
  have h:0=1+k:=h;omega
theorem Jw{f:Nat→Nat}:∀{l:List Nat},l.Nodup→(∀x∈l,∀y∈l,f x=f y→x=y)→(l.map f).Nodup
 |[],_,_=>List.nodup_nil
 |x::l,hn,h=>by
   rw[List.nodup_cons] at hn;rw[List.map_cons,List.nodup_cons];refine⟨fun hm=> ?_,Jw hn.2 (fun a ha b hb=>h a (by simp[ha]) b (by simp[hb]))⟩;obtain⟨y,hy,e⟩:=List.mem_map.1 hm;have:=h y (by simp[hy]) x (by simp) e;exact hn.1 (this ▸ hy)
theorem RA{l:List Nat}(hn:l.Nodup):(l.map (setN id0 1 l)).Nodup:=by
 refine Jw hn ?_;intro x hx y hy h;exact Ph hn hy h
theorem WM(ids ρ:Nat→Nat):∀n (t:GT),t.subs.length≤n→(∀(M:ArM) id,id∉t.blocks.map ids→layM ids ρ t M id=M id)∧((t.blocks.map ids).Nodup→∀(M:ArM),∀s∈t.subs,layM ids ρ t M (ids s.b)=some (s.node ids ρ)):=by
 intro n
 induction n with
 |zero=>intro t h;rw[GT.Aq] at h;simp at h
 |succ n ih=>
   intro t ht;have key:∀(l:List GT),(∀k∈l,k.subs.length≤n)→(∀(M:ArM) id,id∉(GT.AP l).map ids→EE ids ρ l M id=M id)∧(((GT.AP l).map ids).Nodup→∀(M:ArM),∀s∈GT.DF l,EE ids ρ l M (ids s.b)=some (s.node ids ρ)):=by
    intro l
    induction l with
    |nil=>intro _;exact⟨fun M id _=>by rw[EE],fun _ M s hs=>by rw[GT.BQ] at hs;simp at hs⟩
    |cons k l ihl=>
      intro hk;obtain⟨a1,a2⟩:=ih k (hk k (by simp));obtain⟨b1,b2⟩:=ihl (fun x hx=>hk x (by simp[hx]));have hbl:GT.AP (k::l)=k.blocks++GT.AP l:=by unfold GT.AP GT.blocks;rw[GT.BH,List.map_append]
      rw[hbl,List.map_append];refine⟨fun M id hid=> ?_,fun hn M s hs=> ?_⟩
      ·rw[EE,b1 _ id (fun h=>hid (List.mem_append_right _ h)),a1 M id (fun h=>hid (List.mem_append_left _ h))]
      ·rw[List.nodup_append] at hn
       rw[GT.BH] at hs;rw[EE];rcases List.mem_append.1 hs with hs|hs
       ·rw[b1 _ _ (fun h=>hn.2.2 _ (List.mem_map.2 ⟨s.b,GT.GX hs,rfl⟩) _ h rfl)]
        exact a2 hn.1 M s hs
       ·exact b2 hn.2.1 _ s hs
   obtain⟨k1,k2⟩:=key t.ks (fun k hk=>by have:=GT.F6 hk;omega);refine⟨fun M id hid=> ?_,fun hn M s hs=> ?_⟩
   ·rw[GT.Dx,List.map_cons,List.mem_cons] at hid
    rw[O0];unfold putM;rw[if_neg (fun e=>hid (.inl e))];exact k1 M id (fun h=>hid (.inr h))
   ·rw[GT.Dx,List.map_cons,List.nodup_cons] at hn
    rw[O0];unfold putM;rw[GT.Aq] at hs;rcases List.mem_cons.1 hs with hs|hs
    ·subst hs
     rw[if_pos rfl]
    ·have hb:s.b∈GT.AP t.ks:=List.mem_map.2 ⟨s,hs,rfl⟩
     rw[if_neg (fun e=>hn.1 (by rw[←e];exact List.mem_map.2 ⟨s.b,hb,rfl⟩))];exact k2 hn.2 M s hs
theorem Uk(t:GT)(hn:t.blocks.Nodup)(refs:List (Nat×Nat)):
 layM (setN id0 1 t.blocks) (fun b=>((gl refs b).map (setN id0 1 t.blocks)).getD 0) t Jt=rowM (Hg.J4 (Hg.refF (setN id0 1 t.blocks) refs) (Hg.num 1 t).1):=by
 have hnum:=Hg.Vz (setN id0 1 t.blocks) _ t (Nat.le_refl _) 1 (fun k b hk=>Fq t.blocks id0 1 k b hn hk);have hnd:=RA hn;have h1b:setN id0 1 t.blocks t.b=1:=by
  have:=Fq t.blocks id0 1 0 t.b hn (by rw[GT.Dx];rfl);simpa using this
 have hone:∀s∈t.subs,∀b',setN id0 1 t.blocks b'=setN id0 1 t.blocks s.b→b'=s.b:=fun s hs b' h=>Ph hn (GT.GX hs) h;rw[hnum];generalize setN id0 1 t.blocks=ids at hnd h1b hone⊢;obtain⟨g1,g2⟩:=WM ids (fun b=>((gl refs b).map ids).getD 0) _ t (Nat.le_refl _);have hrows:Hg.J4 (Hg.refF ids refs) (t.map ids)=t.subs.map (fun s=>⟨ids s.b,s.node ids (fun b=>((gl refs b).map ids).getD 0)⟩):=by
  unfold Hg.J4;rw[Hg.GT.PX ids _ t (Nat.le_refl _),List.map_map];refine List.map_congr_left (fun s hs=> ?_);show Hg.Row.mk (s.map ids).b {(s.map ids).nd with ref:=Hg.SS (Hg.refF ids refs) (s.map ids).b,kids:=(s.map ids).ks.map Hg.GT.b}=_;rw[Hg.GT.WC,Hg.GT.Jc,Hg.GT.Kn,Hg.Nc ids s.b (hone s hs),List.map_map];have hk:s.ks.map (Hg.GT.b ∘ Hg.GT.map ids)=s.ks.map (fun k=>ids k.b):=List.map_congr_left (fun k _=>Hg.GT.WC ids k);rw[hk];rfl
 rw[hrows];have hids:(t.subs.map (fun s=>Hg.Row.mk (ids s.b) (s.node ids (fun b=>((gl refs b).map ids).getD 0)))).map Hg.Row.id=t.blocks.map ids:=by
  rw[List.map_map,GT.blocks,List.map_map];rfl
 funext id
 unfold rowM;by_cases hid:id∈t.blocks.map ids
 ·obtain⟨b,hb,rfl⟩:=List.mem_map.1 hid
  obtain⟨s,hs,rfl⟩:=List.mem_map.1 hb;rw[g2 hnd Jt s hs];have:=Hg.Mt _ (by rw[hids];exact hnd) ⟨ids s.b,s.node ids (fun b=>((gl refs b).map ids).getD 0)⟩ (List.mem_map.2 ⟨s,hs,rfl⟩);dsimp only at this;rw[this];rfl
 ·rw[g1 Jt id hid]
  have hne:id≠1:=fun e=>hid (by rw[e,←h1b];exact List.mem_map.2 ⟨t.b,by rw[GT.Dx];simp,rfl⟩);have hf:(t.subs.map (fun s=>Hg.Row.mk (ids s.b) (s.node ids (fun b=>((gl refs b).map ids).getD 0)))).find? (fun r=>r.id==id)=none:=by
   rw[List.find?_eq_none];intro r hr;simp only[beq_iff_eq];intro e;exact hid (by rw[←hids,←e];exact List.mem_map.2 ⟨r,hr,rfl⟩)
  rw[hf];unfold Jt putM;rw[if_neg hne];rfl
theorem CK.fr{D:Nat→Prop}{Z:Nat→Prop}{w w':World}{ab mb c:Nat}{M:Nat→Option Hg.Node}(h:CK Z w ab mb c M)(hf:Fr D w w')(h1:¬D ab)(h2:¬D mb)(h3:∀q,Z q→¬D q):CK Z w' ab mb c M:=by
 obtain⟨h0,⟨E,hw,hc,hk⟩,hbd⟩:=h;refine⟨hf.at_ h0 h1,⟨E,RQ hw hf h2,hc,fun id hid=> ?_⟩,hbd⟩;have hx:=hk id hid;cases hM:M id with
 |none=>rw[hM] at hx;exact hx
 |some nd=>
   rw[hM] at hx;obtain⟨ka,kc,g1,g2,g3⟩:=hx;exact⟨ka,kc,g1,(g2.fr (Nat.le_refl _) hf (fun q e=>h3 q (g3 q e))).more hf.size,g3⟩
structure GPOk (s:List UInt8) (L:List Hg.Tok) (t0:GT):Prop where
 len:s.length≤100000
 toks:Hg.Cz s=some L
 num:XK L
 cnt:L.length≤1000000
 prog:Hg.OC L=some t0
 size:t0.subs.length≤5000
 fine:∀x∈t0.subs,x.nd.ref=0∧x.nd.name.length≤1000000∧x.tt.length≤1000000∧x.md.length≤1000000
def Yy(r:Except Nat (List Hg.Row))(w:World)(e:Ending)(w':World):Prop:=
 Below w.heap.size w w'∧match r with
 | .ok rows=>∃ab mb c,e= .returned (.tuple #[.pointer (some ⟨ab,0,none⟩),.int .i64 0])∧ArAt w' ab mb c (rowM rows)
 | .error k=>e= .returned (.tuple #[.pointer none,.int .i64 (EF k:Int)])
theorem Rf(s:List UInt8)(L:List Hg.Tok)(t0:GT)(hG:GPOk s L t0)(w:World)(hTab:Bl w)(r:Except Nat (List Hg.Row))(hr:Hg.Mm s=r)(h0:r≠ .error 0):
 Calls Tryz.prog 17 #[.string ⟨s.toArray⟩] w (Yy r w):=by
 have T1:=zz (XE s L w hG.len hG.toks hG.num hTab);have HG0:=zz hG;unfold Hg.Mm at hr;rw[hG.toks] at hr;dsimp only at hr;rw[hG.prog] at hr;have HTAB:=zz hTab;have HR:=zz hr;have H0:=zz h0;have hmm:= @run_makeMap Tryz.prog;clear hG hTab hr h0;go_enter Tryz.func17,Tryz.ntmps17;go_wp2_with fail;refine T1.out.mono ?_;rintro e w1 ⟨a1,c1,rfl,hs1,hb1⟩;have hpa:PaAt (w1.alloc (.cells #[.slice a1 L.length c1,.int .i64 0,.int .i64 0,.bool false] 82)) w1.heap.size L 0 0:=
  ⟨⟨(HTAB.out.below hb1 HTAB.out.lt).below ((Below.refl w1.heap.size w1).alloc (Nat.le_refl _) _) (Nat.lt_of_lt_of_le HTAB.out.lt hb1.size),Nat.lt_of_lt_of_le HTAB.out.lt hb1.size⟩,a1,c1,heap_alloc_new w1 _,hs1.alloc (Nat.le_refl _) _⟩
 have hbp:Below w.heap.size w (w1.alloc (.cells #[.slice a1 L.length c1,.int .i64 0,.int .i64 0,.bool false] 82)):=hb1.alloc hb1.size _;have hlp:w.heap.size≤w1.heap.size:=hb1.size;have T2:=zz (Pp w1.heap.size L HG0.out.cnt t0 _ hpa HG0.out.prog);have HBP:=zz hbp;have hzp:(w1.alloc (.cells #[.slice a1 L.length c1,.int .i64 0,.int .i64 0,.bool false] 82)).heap.size=w1.heap.size+1:=by simp
 have HZP:=zz hzp;clear T1 hs1 hb1 hpa hbp hzp;go_wp2_with fail;generalize World.alloc w1 _=WP at T2 HBP HZP⊢;refine T2.out.mono ?_;rintro e w3 ⟨kE,t,rfl,hera,hF3,hp3,hg3⟩;have c3:w3.cell? ⟨w1.heap.size,3,none⟩=some (.bool false):=by
  obtain⟨_,a,c,h,_⟩:=hp3;have:=cell_of_row w3 w1.heap.size 3 _ _ (0,0) h;simpa using this
 have HF3:=zz hF3;have HER:=zz hera;have HB3:=zz (show Below w.heap.size w w3 from HBP.out.grown hg3 HBP.out.size (fun k hk=>by injection hk with hk;omega));have hz3:WP.heap.size≤w3.heap.size:=hg3.size;clear T2 hp3 hg3 hF3 hera;have T3:=zz (fun W=>Sg (fun _=>False) W);go_wp2_with fail;refine(T3.out _).mono ?_;rintro e w4 ⟨ab,mb,rfl,hab,hmb,hA4,hb4⟩;have hsubm:t0.subs=t.subs.map (GT.map (fun _=>0)):=by rw[←HER.out];exact Hg.GT.PX _ _ t (Nat.le_refl _)
 have hsz:t.subs.length≤5000:=by have:=HG0.out.size;rw[hsubm,List.length_map] at this;exact this
 have hfine:∀x∈t.subs,x.nd.ref=0∧x.nd.name.length≤1000000∧x.tt.length≤1000000∧x.md.length≤1000000:=fun x hx=>by
  have:=HG0.out.fine (x.map (fun _=>0)) (by rw[hsubm];exact List.mem_map.2 ⟨x,hx,rfl⟩);rw[Hg.GT.Jc,Hg.GT.YS,Hg.GT.YT] at this;exact this
 have hlw3:w.heap.size≤w3.heap.size:=HB3.out.size;have hsubs:GT.DF [t]=t.subs:=by rw[GT.BH,GT.BQ,List.append_nil]
 have hF3:=HF3.out;have hnode3:=hF3.node;have hlo3:=hF3.lo;have hnd3:=hF3.nodup;have hlt3:=hF3.lt;have hblk:GT.AP [t]=t.blocks:=by unfold GT.AP;rw[hsubs];rfl
 rw[hsubs] at hnode3;rw[hblk] at hlo3 hnd3 hlt3;have hbB:Below w3.heap.size w3 (((w4.alloc (.map #[] 0)).alloc (.map #[] 0)).alloc (.cells (Du (.pointer (some ⟨ab,0,none⟩)) 1 (.map (some w4.heap.size)) (.map (some (w4.heap.size+1))) (.slice none 0 0) (.map none) (.slice none 0 0)) 91)):=
  ((hb4.alloc hb4.size _).alloc (by have:=hb4.size;simp;omega) _).alloc (by have:=hb4.size;simp;omega) _
 have hbB4:Below w4.heap.size w4 (((w4.alloc (.map #[] 0)).alloc (.map #[] 0)).alloc (.cells (Du (.pointer (some ⟨ab,0,none⟩)) 1 (.map (some w4.heap.size)) (.map (some (w4.heap.size+1))) (.slice none 0 0) (.map none) (.slice none 0 0)) 91)):=
  (((Below.refl _ _).alloc (Nat.le_refl _) _).alloc (by simp) _).alloc (by simp;omega) _
 have hzB:(((w4.alloc (.map #[] 0)).alloc (.map #[] 0)).alloc (.cells (Du (.pointer (some ⟨ab,0,none⟩)) 1 (.map (some w4.heap.size)) (.map (some (w4.heap.size+1))) (.slice none 0 0) (.map none) (.slice none 0 0)) 91)).heap.size=w4.heap.size+3:=by simp
 have hNB:NmAt (((w4.alloc (.map #[] 0)).alloc (.map #[] 0)).alloc (.cells (Du (.pointer (some ⟨ab,0,none⟩)) 1 (.map (some w4.heap.size)) (.map (some (w4.heap.size+1))) (.slice none 0 0) (.map none) (.slice none 0 0)) 91)) (w4.heap.size+1+1) (.pointer (some ⟨ab,0,none⟩)) 1 (.map (some w4.heap.size)) (.map (some (w4.heap.size+1))) (.slice none 0 0) (.map none) (.slice none 0 0):=by
  have:=heap_alloc_new ((w4.alloc (.map #[] 0)).alloc (.map #[] 0)) (.cells (Du (.pointer (some ⟨ab,0,none⟩)) 1 (.map (some w4.heap.size)) (.map (some (w4.heap.size+1))) (.slice none 0 0) (.map none) (.slice none 0 0)) 91);unfold NmAt;simpa using this
 have hFB:FMap (((w4.alloc (.map #[] 0)).alloc (.map #[] 0)).alloc (.cells (Du (.pointer (some ⟨ab,0,none⟩)) 1 (.map (some w4.heap.size)) (.map (some (w4.heap.size+1))) (.slice none 0 0) (.map none) (.slice none 0 0)) 91)) w4.heap.size []:=by
  refine(XMap.made 131 Qa w4).keep ?_;exact(heap_alloc_old _ _ (by simp;omega)).trans (heap_alloc_old _ _ (by simp))
 have hMB:SMap (((w4.alloc (.map #[] 0)).alloc (.map #[] 0)).alloc (.cells (Du (.pointer (some ⟨ab,0,none⟩)) 1 (.map (some w4.heap.size)) (.map (some (w4.heap.size+1))) (.slice none 0 0) (.map none) (.slice none 0 0)) 91)) (w4.heap.size+1) []:=by
  have h:=XMap.made 9 strV (w4.alloc (.map #[] 0));rw[show(w4.alloc (.map #[] 0)).heap.size=w4.heap.size+1 by simp] at h;exact h.keep (heap_alloc_old _ _ (by simp))
 have hAB:=hA4.below hbB4 (Nat.le_refl _);have h34:=hb4.size;have hab4:=hA4.lts;have hGB:∀s∈t.subs,Bt (((w4.alloc (.map #[] 0)).alloc (.map #[] 0)).alloc (.cells (Du (.pointer (some ⟨ab,0,none⟩)) 1 (.map (some w4.heap.size)) (.map (some (w4.heap.size+1))) (.slice none 0 0) (.map none) (.slice none 0 0)) 91)) id0 nilK (fun q=>WP.heap.size≤q∧q < w3.heap.size∧q∉GT.AP [t]∧¬False) s:=fun s hs=>
  (hnode3 s hs).fr (Fr.of_below hbB:Fr (fun _=>False) w3 _) (fun h=>h) (fun _ _ h=>h)
 have hFRB:=zz ((Fr.of_below (HB3.out.mono (Nat.le_refl _)):Fr (fun q=>w.heap.size≤q) w w3).step (AJ hbB none) (fun q e=>by cases e));generalize hZd:(fun q=>WP.heap.size≤q∧q < w3.heap.size∧q∉GT.AP [t]∧¬False)=Z at hGB;have hZl:∀q,Z q→q < w3.heap.size:=fun q h=>by rw[←hZd] at h;exact h.2.1
 have hZb:∀q,Z q→q∉t.blocks:=fun q h=>by rw[←hZd,hblk] at h;exact h.2.2.1
 have hAmb:Amb t.subs (w4.heap.size+1+1) Z:=⟨GT.closed t,fun s hs hz=>hZb _ hz (GT.GX hs),fun hz=>by have:=hZl _ hz;omega,fun s hs e=>by have:=hlt3 _ (GT.GX hs);omega⟩;have T4:=zz (RU t.subs (w4.heap.size+1+1) Z hAmb nilK _ _ _ _ _ _ t.subs.length t (GT.IL t) (Nat.le_refl _) id0 1 _ hGB hNB (by omega));have HAMB:=zz hAmb;have HZ:=zz (And.intro hZl hZb);have HND:=zz (And.intro hlo3 (And.intro hnd3 hlt3));have HFN:=zz hfine;have HMP:=zz (And.intro hFB (And.intro hMB hAB));have HAB4:=zz hab4;have HZB:=zz hzB;have HNB:=zz hNB;have hr:=HR.out;rw[←HER.out,Hg.SY] at hr;have hnum:=Hg.Vz (setN id0 1 t.blocks) _ t (Nat.le_refl _) 1 (fun k b hk=>Fq t.blocks id0 1 k b hnd3 hk);obtain⟨rt,hrt⟩:∃rt,Hg.nAll t=rt:=⟨_,rfl⟩;have hall:Hg.nAll (Hg.num 1 t).1=rt.map (Hg.refF (setN id0 1 t.blocks)):=by rw[hnum,←hrt];exact Hg.V9 _ t
 rw[hall] at hr;have h0t:rt≠ .error 0:=fun e=>by
  rw[e] at hr;exact H0.out hr.symm
 have HR2:=zz hr;have HRT:=zz (And.intro hrt h0t);clear hF3 hnode3 hlo3 hnd3 hlt3 hZd hZl hZb hAmb hbB hbB4 hzB hNB hFB hMB hAB hGB hA4 hb4 hfine HF3 T3 hsubs hblk hab4 hsubm hr hnum hrt hall h0t c3;go_wp2_with fail;refine T4.out.mono ?_;rintro e w5 ⟨rfl,hG5,hN5,hf5⟩;have hzb:=HZB.out;have hab4:=HAB4.out;have hin:∀q,InB t.subs (w4.heap.size+1+1) q→q=w4.heap.size+1+1∨(WP.heap.size≤q∧q < w3.heap.size):=fun q h=>by
  rcases h with h|⟨x,hx,h⟩
  ·exact .inl h
  ·exact .inr ⟨h ▸ HND.out.1 _ (GT.GX hx),h ▸ HND.out.2.2 _ (GT.GX hx)⟩
 have hwp:w.heap.size≤WP.heap.size:=HBP.out.size;have HFR5:=zz (hFRB.out.DU hf5 (fun q _ e=>by rcases hin q e with h|h <;>omega));have hF5:FMap w5 w4.heap.size []:=HMP.out.1.keep (hf5.block _ HMP.out.1.lt (fun e=>by rcases hin _ e with h|h <;>omega));have hM5:SMap w5 (w4.heap.size+1) []:=HMP.out.2.1.keep (hf5.block _ HMP.out.2.1.lt (fun e=>by rcases hin _ e with h|h <;>omega));have HA5:=zz (HMP.out.2.2.fr hf5 (fun e=>by rcases hin _ e with h|h <;>omega) (fun e=>by rcases hin _ e with h|h <;>omega) (fun q h=>h.elim));have hsz5:w4.heap.size+3≤w5.heap.size:=by have:=hf5.size;omega
 have HNE:=zz (show∀s∈t.subs,WP.heap.size≤s.b∧s.b < w3.heap.size from fun s hs=>⟨HND.out.1 _ (GT.GX hs),HND.out.2.2 _ (GT.GX hs)⟩);have HLW:=zz (show Low t.subs (w4.heap.size+1+1) Z (w4.heap.size+3) from⟨fun s hs=>by have:=(HNE.out s hs).2;omega,by omega,fun q hz=>by have:=HZ.out.1 q hz;omega⟩);have hNB5:NB t.subs (w4.heap.size+1+1) Z (w4.heap.size+3) (setN id0 1 t.blocks) (.pointer (some ⟨ab,0,none⟩)) (1+t.subs.length) w4.heap.size (.map (some (w4.heap.size+1))) (.slice none 0 0) (fun _=>0) ⟨[],[],[],[]⟩ [] w5:=
  ⟨⟨_,_,hN5⟩,hF5,by omega,⟨rfl,.inl ⟨rfl,rfl⟩⟩,fun s hs=>by
   show Bt w5 (setN id0 1 t.blocks) nilK Z (s.rf (fun _=>0));rw[Hg.GT.Xe (HFN.out s hs).1];exact hG5 s hs,fun b=>rfl,fun c h=>by simp at h,fun p h=>by simp at h,hsz5⟩
 have T5:=zz (X5 t.subs (w4.heap.size+1+1) Z (w4.heap.size+3) HLW.out HAMB.out _ _ _ w4.heap.size (w4.heap.size+1) (fun hz=>by have:=HZ.out.1 _ hz;omega) (fun hz=>by have:=HZ.out.1 _ hz;omega) (by omega) (by omega) (fun x hx=>⟨(HFN.out x hx).2.1,(HFN.out x hx).2.2.1⟩) (fun x hx=>(HFN.out x hx).2.2.2) t (GT.IL t) (by omega) rt HRT.out.1 HRT.out.2 _ w5 hNB5 hM5);have n1:w5.cell? ⟨w4.heap.size+1+1,1,none⟩=some (.int .u64 ((1+t.subs.length:Nat):Int)):=by
  have:=cell_of_row w5 (w4.heap.size+1+1) 1 _ _ (0,0) hN5;simpa using this
 have hq1:decide (20001 < ((1+t.subs.length:Nat):Int))=false:=by simp;omega
 have hq2:decide (20001 < 1+t.subs.length)=false:=by simp;omega
 have hq3:decide ((20001:Int) < 1+(t.subs.length:Int))=false:=by simp;omega
 clear T4 hG5 hf5 hin hF5 hM5 hN5 HMP hFRB hNB5;go_wp2_with fail;refine T5.out.mono ?_;rintro e w6 ⟨hf6,hres⟩;have hD:∀q,(NOwn t.subs (w4.heap.size+1+1) (w4.heap.size+3) q∨q=w4.heap.size∨q=w4.heap.size+1)→(WP.heap.size≤q∧q < w3.heap.size)∨w4.heap.size≤q:=fun q e=>by
  rcases e with((e|⟨x,hx,e⟩)|e)|e|e
  ·omega
  ·exact .inl (e ▸ HNE.out x hx)
  ·omega
  ·omega
  ·omega
 have HFR6:=zz (HFR5.out.DU hf6 (fun q _ e=>by rcases hD q e with h|h <;>omega));have hr2:=HR2.out;have hb6:Below w.heap.size w w6:=HFR6.out.below (fun q h h'=>by omega);cases rt with
 |error k=>
   have hres:e= .returned (.int .i64 (EF k:Int)):=hres;have hre:r= .error k:=hr2.symm;subst hres;subst hre;have hq:((EF k:Int) !=0)=true:=by unfold EF;split <;>rfl
   have HB6:=zz hb6;clear T5 hf6 hD hb6 hr2;go_wp2;exact bodyPost_ret (v:= .tuple #[.pointer none,.int .i64 (EF k:Int)]) (by simp[results,Tryz.results17,go_sem]) rfl ⟨HB6.out,rfl⟩
 |ok refs=>
   obtain⟨rfl,cv6,uv6,sv6,hN6,hG6⟩:=hres;have hre:r= .ok (Hg.J4 (Hg.refF (setN id0 1 t.blocks) refs) (Hg.num 1 t).1):=hr2.symm;have hA6:=HA5.out.fr hf6 (fun e=>by rcases hD _ e with h|h <;>omega) (fun e=>by rcases hD _ e with h|h <;>omega) (fun q h=>h.elim);have hids:∀s∈t.subs,0 < setN id0 1 t.blocks s.b∧setN id0 1 t.blocks s.b≤1000000:=fun s hs=>by
    obtain⟨k,hk,he⟩:=List.mem_iff_getElem.1 (GT.GX hs);rw[Fq t.blocks id0 1 k s.b HND.out.2.1 (by rw[List.getElem?_eq_getElem hk,he])];rw[GT.DN] at hk;omega
   have hw36:w3.heap.size≤w6.heap.size:=by have:=hA6.lts;omega
   have T6:=zz (Xp t.subs (w4.heap.size+1+1) Z HAMB.out (setN id0 1 t.blocks) (fun b=>((gl refs b).map (setN id0 1 t.blocks)).getD 0) ab mb _ _ _ _ _ _ hids t.subs.length t (GT.IL t) (Nat.le_refl _) HND.out.2.1 nilK w6 1 Jt (fun _=>False) hG6 (fun _ _=>rfl) hN6 hA6 (fun q hz=>by have:=HZ.out.1 q hz;omega) (fun q h=>h.elim) (fun s _ h=>h) (by omega) (by omega));subst hre;have HEND:=zz (Uk t HND.out.2.1 refs);clear T5 hN6 hf6 hA6 hG6 hids HA5 HFR5 hb6 hr2 hD HR2 HRT;go_wp2_with fail;refine T6.out.mono ?_;rintro e w7 ⟨rfl,κ7,c7,hG7,hκ7,hN7,hc7,hA7,hf7⟩;have n0:=hN7.cell0;have HFIN:=zz (show Below w.heap.size w w7∧ArAt w7 ab mb c7 (layM (setN id0 1 t.blocks) (fun b=>((gl refs b).map (setN id0 1 t.blocks)).getD 0) t Jt) from⟨(HFR6.out.DU hf7 (fun q _ e=>by
    rcases e with e|e
    ·have:=HND.out.1 q e;omega
    ·omega)).below (fun q h h'=>by omega),hA7.weak⟩)
   clear T6 hG7 hκ7 hN7 hc7 hA7 hf7 HFR6;go_wp2;exact bodyPost_ret (v:= .tuple #[.pointer (some ⟨ab,0,none⟩),.int .i64 0]) (by simp[results,Tryz.results17,go_sem]) rfl ⟨HFIN.out.1,ab,mb,c7,rfl,by rw[←HEND.out];exact HFIN.out.2⟩
end Go.Proofs.YtljmibnfmilfbaaGreatDoor
namespace Go.Proofs.YtljmibnfmilfbaaGreatDoor
open Go.RowKit
open Hg (GT gl)
theorem Cm{w:World}{base base':Nat}{e:TypeId}{size:Nat}{v:Value}{n:Nat}{xs:List Value}(h:w.ownsRow base e size v n xs)(hb:base'≤base):w.ownsRow base' e size v n xs:=by
 obtain⟨h1,h2⟩:=h;refine⟨h1, ?_⟩;rcases h2 with h2|⟨g,cap,cur,hv,hg,h3⟩
 ·exact .inl h2
 ·exact .inr ⟨g,cap,cur,hv,Nat.le_trans hb hg,h3⟩
def VP(w:World)(ids:List Nat)(e:Ending)(w':World):Prop:=
 ∃v,e= .returned v∧w'.ownsRow w.heap.size 30 1 v ids.length (ids.map idV)∧Below w.heap.size w w'
theorem Ry(B:Nat)(v:Value)(ids:List Nat)(w:World)(hB:B≤w.heap.size)(hs:Sl w B v ids.length (ids.map idV))(hl:ids.length≤1000000):
 Calls Tryz.prog 60 #[v] w (VP w ids):=by
 obtain⟨j0,hj,hj0,hj1,hj2⟩:=info_parts GA;obtain⟨a,c,rfl⟩:=hs.form;have HS:=zz hs;clear hs;cases a with
 |none=>
   have h0:ids=[]:=by
    obtain⟨a',c',hv,hc⟩:=HS.out;injection hv with h1 h2 h3;cases ids with
    |nil=>rfl
    |cons x xs=>obtain⟨b,o,ha,_⟩:=hc (by simp);rw[←h1] at ha;cases ha
   subst h0;have hnil:=Go.Lib.run_eql_slice_nil (P:=Tryz.prog) w 31 30 none 0 c 0 0 Tryz.underlying31;go_enter Tryz.func60,Tryz.ntmps60;go_wp2_with fail;go_ret;exact⟨.slice none 0 0,rfl,⟨rfl,.inl ⟨rfl,rfl⟩⟩,Below.refl _ _⟩
 |some a=>
   have hnil:=Go.Lib.run_eql_slice_nil (P:=Tryz.prog) w 31 30 (some a) ids.length c 0 0 Tryz.underlying31;go_enter Tryz.func60,Tryz.ntmps60
   go_wp2_with (at_builtin;refine BV _ rfl (.tmp 5) (.tmp 6) _ rfl w.heap.size 30 j0 _ 8 Tryz.underlying31 hj hj0 hj1 hj2 rfl _ _ _ rfl (Dz _ _ _ ?_) B _ _ _ rfl (HS.out.alloc ?_ _) ?_ (FP _) ?_ ?_ ?_ ?_)
   ·omega
   ·omega
   ·simp
   ·unfold maxLen;omega
   ·omega
   ·simp
   intro v3 W3 own3 g3 at3
   try simp only[Nat.zero_add,List.nil_append] at own3
   have hb3:Below w.heap.size w W3:=((Below.refl w.heap.size w).alloc (Nat.le_refl _) _).grown g3 (by simp) (fun k hk=>by simp[Value.ownBlock] at hk;omega);have HO3:=zz own3;have hs3:Sl W3 W3.heap.size v3 ids.length (ids.map idV):=Sl.AX own3;obtain⟨a3,c3,rfl⟩:=hs3.form;clear hs3 own3 at3 g3;go_wp2;go_ret;exact⟨_,rfl,HO3.out,hb3⟩
def VN(w:World)(n:Hg.Node)(e:Ending)(w':World):Prop:=
 ∃ka kc,e= .returned (ndV n ka kc)∧w'.ownsRow (w.heap.size+2) 30 1 (.slice ka n.kids.length kc) n.kids.length (n.kids.map idV)∧Below w.heap.size w w'
theorem CB{w:World}{base:Nat}{e:TypeId}{size:Nat}{v:Value}{n:Nat}{xs:List Value}(h:w.ownsRow base e size v n xs){p:Addr}(hp:p.block < base)(u:Value):(w.setCell p u).ownsRow base e size v n xs:=
 Aa h ((Fr.refl (fun q=>q=p.block) w).set (p:=p) (.inl rfl) u) (fun q e e'=>by have:=(h.lt q e).1;omega)
theorem Vh{w1:World}{base g g' j:Nat}{e:TypeId}{v:Value}{n:Nat}{xs:List Value}(h:w1.ownsRow base e 1 v n xs)(hg:g < base)(hg':g' < base)(u u0 u1 u2 u3 u4 u5:Value):
 (((((((w1.setCell ⟨g',j,none⟩ u).setCell ⟨g,0,none⟩ u0).setCell ⟨g,1,none⟩ u1).setCell ⟨g,2,none⟩ u2).setCell ⟨g,3,none⟩ u3).setCell ⟨g,4,none⟩ u4).setCell ⟨g,5,none⟩ u5).ownsRow base e 1 v n xs:=
 CB (CB (CB (CB (CB (CB (CB h hg' _) hg _) hg _) hg _) hg _) hg _) hg _
theorem Vi{w1:World}{base g:Nat}{e:TypeId}{v:Value}{n:Nat}{xs:List Value}(h:w1.ownsRow base e 1 v n xs)(hg:g < base)(u0 u1 u2 u3 u4 u5:Value):
 ((((((w1.setCell ⟨g,0,none⟩ u0).setCell ⟨g,1,none⟩ u1).setCell ⟨g,2,none⟩ u2).setCell ⟨g,3,none⟩ u3).setCell ⟨g,4,none⟩ u4).setCell ⟨g,5,none⟩ u5).ownsRow base e 1 v n xs:=
 CB (CB (CB (CB (CB (CB h hg _) hg _) hg _) hg _) hg _) hg _
theorem Qz(B:Nat)(n:Hg.Node)(ka:Option Addr)(kc:Nat)(w:World)(hB:B≤w.heap.size)(hs:Sl w B (.slice ka n.kids.length kc) n.kids.length (n.kids.map idV))(hl:n.kids.length≤1000000):
 Calls Tryz.prog 33 #[ndV n ka kc] w (VN w n):=by
 have HS:=zz hs;clear hs;go_enter Tryz.func33,Tryz.ntmps33;go_wp2_with fail;refine(Ry B _ n.kids _ (by simp;omega) ((HS.out.alloc hB _).alloc (by simp;omega) _) hl).mono ?_;rintro e w1 ⟨v,rfl,ho1,hb1⟩;obtain⟨ka1,kc1,rfl⟩:=(Sl.AX ho1).form;obtain⟨hh1,hh2,hsz,hbb⟩:=Gx hb1;have HO1:=zz (show w1.ownsRow (w.heap.size+2) 30 1 (.slice ka1 n.kids.length kc1) n.kids.length (n.kids.map idV) from by simpa using ho1);have c1:=fun i=>cell_of_row w1 w.heap.size i _ _ (0,0) hh1;have k0:=c1 0;have k1:=c1 1;have k2:=c1 2;have k3:=c1 3;have k4:=c1 4;have k5:=c1 5;simp at k0 k1 k2 k3 k4 k5;have c2:=fun i=>cell_of_row w1 (w.heap.size+1) i _ _ (0,0) hh2;have z0:=c2 0;have z1:=c2 1;have z2:=c2 2;have z3:=c2 3;have z4:=c2 4;have z5:=c2 5;simp at z0 z1 z2 z3 z4 z5;have f1:∀i,w1.frozen? ⟨w.heap.size,i,none⟩=false:=fun i=>by simp[World.frozen?,hh1]
 have f2:∀i,w1.frozen? ⟨w.heap.size+1,i,none⟩=false:=fun i=>by simp[World.frozen?,hh2]
 clear ho1 hb1 hh1 hh2 c1 c2;go_wp2;exact bodyPost_ret (v:=ndV n ka1 kc1) (by simp[results,Tryz.results33,go_sem,k0,k1,k2,k3,k4,k5,z0,z1,z2,z3,z4,z5,f1,f2]) rfl
  ⟨ka1,kc1,rfl,Vh HO1.out (by omega) (by omega) _ _ _ _ _ _ _,Cb (hbb.setCell (p:=⟨w.heap.size,5,none⟩) (Nat.le_refl _) _) (by omega) _ _ _ _ _ _⟩
def H7(w:World)(o:Option Hg.Node)(e:Ending)(w':World):Prop:=
 ∃ka kc,e= .returned (.tuple #[ndV (o.getD Hg.Node.zero) ka kc,.bool o.isSome])∧w'.ownsRow w.heap.size 30 1 (.slice ka (o.getD Hg.Node.zero).kids.length kc) (o.getD Hg.Node.zero).kids.length ((o.getD Hg.Node.zero).kids.map idV)∧Below w.heap.size w w'
def XM(w:World)(nd:Hg.Node)(s:Bool)(e:Ending)(w':World):Prop:=
 ∃ka kc,e= .returned (.tuple #[ndV nd ka kc,.bool s])∧w'.ownsRow w.heap.size 30 1 (.slice ka nd.kids.length kc) nd.kids.length (nd.kids.map idV)∧Below w.heap.size w w'
theorem Mk(ab mb c:Nat)(M:Nat→Option Hg.Node)(id:Nat)(w:World)(hA:ArAt w ab mb c M)(hid:id < Ae):
 Calls Tryz.prog 8 #[.pointer (some ⟨ab,0,none⟩),.int .u64 (id:Int)] w (H7 w (M id)):=by
 obtain⟨c0,f0⟩:=hA.read;have hlt:=hA.lt;have hb0:∀z,Below w.heap.size w (w.alloc (.cells z 33)):=fun z=>(Below.refl _ _).alloc (Nat.le_refl _) _;have hlen:=hA.map.len id;obtain⟨ka,kc,hlk,hks⟩:=(hA.below (hb0 #[.int .u8 0,.string ⟨#[]⟩,.int .i64 0,.int .u8 0,.int .u64 0,.slice none 0 0]) (Nat.le_refl _)).map.WE hid;refine Calls.mono (R:=XM w ((M id).getD Hg.Node.zero) (M id).isSome) ?_ (fun e w' h=>h);generalize(M id).getD Hg.Node.zero=nd at hlk hks hlen⊢;generalize(M id).isSome=s at hlk⊢;have HS:=zz hks;clear hA hid hb0 hks;go_enter Tryz.func8,Tryz.ntmps8;go_wp2_with fail;refine(Qz _ nd ka kc _ (by simp) (HS.out.alloc (Nat.le_refl _) _) hlen).mono ?_;rintro e w1 ⟨ka1,kc1,rfl,ho1,hb1⟩;obtain⟨hh1,hh2,hsz,hbb⟩:=Gx hb1;have HO1:=zz (show w1.ownsRow (w.heap.size+1) 30 1 (.slice ka1 nd.kids.length kc1) nd.kids.length (nd.kids.map idV) from Cm ho1 (by simp));have c2:=fun i=>cell_of_row w1 w.heap.size i _ _ (0,0) hh1;have z0:=c2 0;have z1:=c2 1;have z2:=c2 2;have z3:=c2 3;have z4:=c2 4;have z5:=c2 5;simp at z0 z1 z2 z3 z4 z5;have f2:∀i,w1.frozen? ⟨w.heap.size,i,none⟩=false:=fun i=>by simp[World.frozen?,hh1]
 clear ho1 hb1 hh1 hh2 c2 hlk;go_wp2;exact bodyPost_ret (v:= .tuple #[ndV nd ka1 kc1,.bool s]) (by simp[results,Tryz.results8,go_sem,z0,z1,z2,z3,z4,z5,f2]) rfl
  ⟨ka1,kc1,rfl,Cm (Vi HO1.out (by omega) _ _ _ _ _ _) (by omega),Cb hbb (Nat.le_refl _) _ _ _ _ _ _⟩
end Go.Proofs.YtljmibnfmilfbaaGreatDoor
