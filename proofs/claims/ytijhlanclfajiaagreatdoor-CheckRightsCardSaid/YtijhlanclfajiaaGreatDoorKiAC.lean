/-
  A part of the proof.
-/
import Derived.Below
set_option linter.all false
namespace Go.Proofs.YtijhlanclfajiaaGreatDoor.Ev
open Go
inductive AV where
 |v (x:Value)
 |ptr (b o:Nat)
 |slc (b o l c:Nat)
 |map (b:Nat)
 |fn (f:FuncId) (cs:List AV)
 |agg (l:List AV)
 |tup (l:List AV)
 deriving Inhabited
structure En where
 r:Nat→Nat
 d:Nat→Nat
mutual
inductive VR (E:En) (n:Nat):AV→Value→Prop
 |v (x:Value):VR E n (.v x) x
 |ptr {b o:Nat} (h:b < n):VR E n (.ptr b o) (.pointer (some ⟨E.r b,o,none⟩))
 |slc {b o l c:Nat} (h:b < n):VR E n (.slc b o l c) (.slice (some ⟨E.r b,o,none⟩) l (c+E.d b))
 |map {b:Nat} (h:b < n):VR E n (.map b) (.map (some (E.r b)))
 |fn {f:FuncId} {cs:List AV} {xs:List Value} (h:VRs E n cs xs):VR E n (.fn f cs) (.func (.func f) #[] xs.toArray)
 |agg {l:List AV} {xs:List Value} (h:VRs E n l xs):VR E n (.agg l) (.agg xs.toArray)
 |tup {l:List AV} {xs:List Value} (h:VRs E n l xs):VR E n (.tup l) (.tuple xs.toArray)
inductive VRs (E:En) (n:Nat):List AV→List Value→Prop
 |nil:VRs E n [] []
 |cons {a:AV} {x:Value} {l:List AV} {xs:List Value} (h:VR E n a x) (t:VRs E n l xs):VRs E n (a::l) (x::xs)
end
structure Le (E:En) (n:Nat) (E':En) (n':Nat):Prop where
 r:∀b,b < n→E'.r b=E.r b
 d:∀b,b < n→E'.d b=E.d b
 n:n≤n'
theorem Le.refl(E:En)(n:Nat):Le E n E n:=⟨fun _ _=>rfl,fun _ _=>rfl,Nat.le_refl _⟩
theorem Le.trans{E E' E'':En}{n n' n'':Nat}(h:Le E n E' n')(g:Le E' n' E'' n''):Le E n E'' n'':=
 ⟨fun b hb=>(g.r b (Nat.lt_of_lt_of_le hb h.n)).trans (h.r b hb),fun b hb=>(g.d b (Nat.lt_of_lt_of_le hb h.n)).trans (h.d b hb),Nat.le_trans h.n g.n⟩
section
variable {E E':En} {n n':Nat}
mutual
theorem VR.mono(L:Le E n E' n'):∀{a:AV} {x:Value},VR E n a x→VR E' n' a x
 |_,_,.v x=> .v x
 |_,_,.ptr h=>by rw[←L.r _ h];exact .ptr (Nat.lt_of_lt_of_le h L.n)
 |_,_,.slc h=>by rw[←L.r _ h,←L.d _ h];exact .slc (Nat.lt_of_lt_of_le h L.n)
 |_,_,.map h=>by rw[←L.r _ h];exact .map (Nat.lt_of_lt_of_le h L.n)
 |_,_,.fn h=> .fn (VRs.mono L h)
 |_,_,.agg h=> .agg (VRs.mono L h)
 |_,_,.tup h=> .tup (VRs.mono L h)
theorem VRs.mono(L:Le E n E' n'):∀{l:List AV} {xs:List Value},VRs E n l xs→VRs E' n' l xs
 |_,_,.nil=> .nil
 |_,_,.cons h t=> .cons (VR.mono L h) (VRs.mono L t)
end
theorem VRs.length:∀{l:List AV} {xs:List Value},VRs E n l xs→l.length=xs.length
 |_,_,.nil=>rfl
 |_,_,.cons _ t=>congrArg (· +1) (VRs.length t)
theorem VRs.get:∀{l:List AV} {xs:List Value} {i:Nat} {a:AV},VRs E n l xs→l[i]? =some a→∃x,xs[i]? =some x∧VR E n a x
 |_,_,0,_,.cons h _,e=>⟨_,rfl,(Option.some.inj e) ▸ h⟩
 |_,_,i+1,_,.cons _ t,e=>VRs.get (i:=i) t (by simpa using e)
theorem VRs.append:∀{l l':List AV} {xs ys:List Value},VRs E n l xs→VRs E n l' ys→VRs E n (l++l') (xs++ys)
 |_,_,_,_,.nil,h=>h
 |_,_,_,_,.cons h t,g=> .cons h (VRs.append t g)
theorem VRs.take:∀{l:List AV} {xs:List Value} (k:Nat),VRs E n l xs→VRs E n (l.take k) (xs.take k)
 |_,_,0,h=>by simpa using VRs.nil
 |_,_,_+1,.nil=> .nil
 |_,_,k+1,.cons h t=> .cons h (VRs.take k t)
theorem VRs.drop:∀{l:List AV} {xs:List Value} (k:Nat),VRs E n l xs→VRs E n (l.drop k) (xs.drop k)
 |_,_,0,h=>h
 |_,_,_+1,.nil=> .nil
 |_,_,k+1,.cons _ t=>VRs.drop k t
theorem VRs.set:∀{l:List AV} {xs:List Value} {a:AV} {x:Value} (k:Nat),VRs E n l xs→VR E n a x→VRs E n (l.set k a) (xs.set k x)
 |_,_,_,_,_,.nil,_=> .nil
 |_,_,_,_,0,.cons _ t,h=> .cons h t
 |_,_,_,_,k+1,.cons g t,h=> .cons g (VRs.set k t h)
theorem VRs.vs:∀(xs:List Value),VRs E n (xs.map .v) xs
 |[]=> .nil
 |x::xs=> .cons (.v x) (VRs.vs xs)
def Hq:AV→List AV
 | .agg l=>l
 | .v (.agg cs)=>cs.toList.map .v
 |x=>[x]
theorem VR.cells{a:AV}{x:Value}(h:VR E n a x):VRs E n (Hq a) x.cells.toList:=by
 cases h with
 |v x=>
   cases x with
   |agg cs=>exact VRs.vs _
   |_=>exact .cons (.v _) .nil
 |agg h=>exact h
 |ptr h=>exact .cons (.ptr h) .nil
 |slc h=>exact .cons (.slc h) .nil
 |map h=>exact .cons (.map h) .nil
 |fn h=>exact .cons (.fn h) .nil
 |tup h=>exact .cons (.tup h) .nil
end
inductive T (α:Type) where
 |lf
 |nd (x:Option α) (l r:T α)
def T.x{α:Type}:T α→Option α
 | .lf=>none
 | .nd x _ _=>x
def T.l{α:Type}:T α→T α
 | .lf=> .lf
 | .nd _ l _=>l
def T.r{α:Type}:T α→T α
 | .lf=> .lf
 | .nd _ _ r=>r
def T.get{α:Type}:T α→Nat→Option α
 | .lf,_=>none
 | .nd x l r,k=>if k=0 then x else if k % 2=1 then l.get (k / 2) else r.get (k / 2-1)
theorem T.LJ{α:Type}(t:T α)(k:Nat):t.get k=if k=0 then t.x else if k % 2=1 then t.l.get (k / 2) else t.r.get (k / 2-1):=by
 cases t with
 |lf=>simp[T.get,T.x,T.l,T.r]
 |nd x l r=>rfl
def T.put{α:Type}:Nat→T α→Nat→Option α→Option (T α)
 |0,_,_,_=>none
 |f+1,t,k,y=>if k=0 then some (.nd y t.l t.r) else if k % 2=1 then match T.put f t.l (k / 2) y with
     |some l=>some (.nd t.x l t.r)
     |none=>none
   else match T.put f t.r (k / 2-1) y with
    |some r=>some (.nd t.x t.l r)
    |none=>none
theorem T.get_put{α:Type}:∀(f:Nat) (t:T α) (k:Nat) (y:Option α) (t':T α),T.put f t k y=some t'→∀j,t'.get j=if j=k then y else t.get j
 |f+1,t,k,y,t',h,j=>by
   unfold T.put at h
   split at h
   ·cases h
    rename_i hk
    subst hk;rw[T.LJ,T.LJ t];by_cases hj:j=0 <;>simp[hj,T.x,T.l,T.r]
   ·split at h
    ·split at h
     ·rename_i hk hk2 _ l hp
      cases h;have ih:=T.get_put f _ _ _ _ hp (j / 2);rw[T.LJ,T.LJ t];by_cases hj:j=0
      ·rw[if_pos hj,if_neg (by omega),if_pos hj];rfl
      ·rw[if_neg hj,if_neg hj]
       by_cases hj2:j % 2=1
       ·rw[if_pos hj2,if_pos hj2]
        refine ih.trans ?_;by_cases e:j=k
        ·rw[if_pos (by omega),if_pos e]
        ·rw[if_neg (by omega),if_neg e]
       ·rw[if_neg hj2,if_neg hj2,if_neg (by omega)];rfl
     ·cases h
    ·split at h
     ·rename_i hk hk2 _ r hp
      cases h;have ih:=T.get_put f _ _ _ _ hp (j / 2-1);rw[T.LJ,T.LJ t];by_cases hj:j=0
      ·rw[if_pos hj,if_neg (by omega),if_pos hj];rfl
      ·rw[if_neg hj,if_neg hj]
       by_cases hj2:j % 2=1
       ·rw[if_pos hj2,if_pos hj2,if_neg (by omega)];rfl
       ·rw[if_neg hj2,if_neg hj2]
        refine ih.trans ?_;by_cases e:j=k
        ·rw[if_pos (by omega),if_pos e]
        ·rw[if_neg (by omega),if_neg e]
     ·cases h
end Go.Proofs.YtijhlanclfajiaaGreatDoor.Ev
namespace Go.Proofs.YtijhlanclfajiaaGreatDoor.Ev
open Go
theorem VR.uniqs{E:En}{n:Nat}:(∀{a:AV} {x y:Value},VR E n a x→VR E n a y→x=y)∧(∀{l:List AV} {xs ys:List Value},VRs E n l xs→VRs E n l ys→xs=ys):=by
 refine⟨fun {a x y} h g=> ?_,fun {l xs ys} h g=> ?_⟩
 ·exact VR.rec (motive_1:=fun a x _=>∀y,VR E n a y→x=y) (motive_2:=fun l xs _=>∀ys,VRs E n l ys→xs=ys)
   (fun x y g=>by cases g;rfl) (fun h y g=>by cases g;rfl) (fun h y g=>by cases g;rfl) (fun h y g=>by cases g;rfl)
   (fun h ih y g=>by cases g with|fn g=>rw[ih _ g]) (fun h ih y g=>by cases g with|agg g=>rw[ih _ g]) (fun h ih y g=>by cases g with|tup g=>rw[ih _ g])
   (fun ys g=>by cases g;rfl) (fun h t i1 i2 ys g=>by cases g with|cons a b=>rw[i1 _ a,i2 _ b]) h y g
 ·exact VRs.rec (motive_1:=fun a x _=>∀y,VR E n a y→x=y) (motive_2:=fun l xs _=>∀ys,VRs E n l ys→xs=ys)
   (fun x y g=>by cases g;rfl) (fun h y g=>by cases g;rfl) (fun h y g=>by cases g;rfl) (fun h y g=>by cases g;rfl)
   (fun h ih y g=>by cases g with|fn g=>rw[ih _ g]) (fun h ih y g=>by cases g with|agg g=>rw[ih _ g]) (fun h ih y g=>by cases g with|tup g=>rw[ih _ g])
   (fun ys g=>by cases g;rfl) (fun h t i1 i2 ys g=>by cases g with|cons a b=>rw[i1 _ a,i2 _ b]) h ys g
def BP{α:Type}(P:Program):Nat→Sem α→Option α
 |_,.pure a=>some a
 |n+1,.program k=>BP P n (k P)
 |n+1,.mark _ k=>BP P n k
 |_,_=>none
theorem C8{α:Type}{P:Program}{a:α}:∀{n:Nat} {s:Sem α},BP P n s=some a→∀w,s.run P w= .ok a w
 |_,.pure a,h,w=>by unfold BP at h;cases h;rfl
 |n+1,.program k,h,w=>by unfold BP at h;exact C8 (n:=n) h w
 |n+1,.mark _ k,h,w=>by unfold BP at h;exact C8 (n:=n) h w
 |0,.program k,h,_=>by simp[BP] at h
 |0,.mark _ k,h,_=>by simp[BP] at h
 |n,.load ..,h,_=>by cases n <;>simp[BP] at h
 |n,.store ..,h,_=>by cases n <;>simp[BP] at h
 |n,.new ..,h,_=>by cases n <;>simp[BP] at h
 |n,.shape ..,h,_=>by cases n <;>simp[BP] at h
 |n,.freeze ..,h,_=>by cases n <;>simp[BP] at h
 |n,.frozen ..,h,_=>by cases n <;>simp[BP] at h
 |n,.getObj ..,h,_=>by cases n <;>simp[BP] at h
 |n,.setObj ..,h,_=>by cases n <;>simp[BP] at h
 |n,.choose ..,h,_=>by cases n <;>simp[BP] at h
 |n,.sys ..,h,_=>by cases n <;>simp[BP] at h
 |n,.halt ..,h,_=>by cases n <;>simp[BP] at h
inductive AB where
 |cells (l:List AV) (ty:TypeId) (x:Bool)
 |map (es:List (Value×AV))
inductive MR (E:En) (n:Nat):Nat→List (Value×AV)→List MapEntry→Prop
 |nil {k:Nat}:MR E n k [] []
 |cons {k:Nat} {key x:Value} {a:AV} {es:List (Value×AV)} {fs:List MapEntry} (h:VR E n a x) (t:MR E n (k+1) es fs):MR E n k ((key,a)::es) (⟨key,x,k⟩::fs)
def BR(P:Program)(E:En)(n:Nat)(o:Option Obj)(d:Nat):AB→Prop
 | .cells l ty x=>∃xs rest,o=some (.cells (xs++rest).toArray ty (0,0))∧VRs E n l xs∧rest.length=d*P.cellsOf ty∧(x=true→d=0)
 | .map es=>∃fs,o=some (.map fs.toArray es.length)∧MR E n 0 es fs
def Mem(P:Program)(E:En)(n:Nat)(h:T AB)(w:World):Prop:=∀b ab,h.get b=some ab→b < n∧BR P E n w.heap[E.r b]? (E.d b) ab
section
variable {E E':En} {n n':Nat} {P:Program}
theorem MR.mono(L:Le E n E' n'):∀{k:Nat} {es:List (Value×AV)} {fs:List MapEntry},MR E n k es fs→MR E' n' k es fs
 |_,_,_,.nil=> .nil
 |_,_,_,.cons h t=> .cons (h.mono L) (MR.mono L t)
theorem BR.mono(L:Le E n E' n'){o:Option Obj}{d:Nat}:∀{ab:AB},BR P E n o d ab→BR P E' n' o d ab
 | .cells _ _ _,⟨xs,rest,h,hv,hr⟩=>⟨xs,rest,h,hv.mono L,hr⟩
 | .map _,⟨fs,h,hm⟩=>⟨fs,h,hm.mono L⟩
theorem Mem.mono(L:Le E n E' n'){h:T AB}{w:World}(H:Mem P E n h w):Mem P E' n' h w:=fun b ab hb=>by
 obtain⟨h1,h2⟩:=H b ab hb;exact⟨Nat.lt_of_lt_of_le h1 L.n,by rw[L.r _ h1,L.d _ h1];exact h2.mono L⟩
end
def opnd(fr:T AV):Operand→Option AV
 | .tmp t=>fr.get t
 | .const v=>some (.v v)
 | .global g=>some (.v (.pointer (some ⟨g,0,none⟩)))
 | .func f=>some (.v (.func (.func f) #[] #[]))
def GX(fr:T AV):List Operand→Option (List AV)
 |[]=>some []
 |x::xs=>match opnd fr x,GX fr xs with
   |some a,some l=>some (a::l)
   |_,_=>none
def Ops(E:En)(n:Nat)(fr:T AV)(ρ:Operand→Value):Prop:=∀x a,opnd fr x=some a→VR E n a (ρ x)
theorem Ops.all{E:En}{n:Nat}{fr:T AV}{ρ:Operand→Value}(h:Ops E n fr ρ):∀{xs:List Operand} {l:List AV},GX fr xs=some l→VRs E n l (xs.map ρ)
 |[],_,e=>by cases e;exact .nil
 |x::xs,l,e=>by
   unfold GX at e
   split at e
   ·rename_i a l' ha hl
    cases e;exact .cons (h x a ha) (Ops.all h hl)
   ·cases e
theorem Ops.v{E:En}{n:Nat}{fr:T AV}{ρ:Operand→Value}(h:Ops E n fr ρ){x:Operand}{y:Value}(e:opnd fr x=some (.v y)):ρ x=y:=by
 have:=h x _ e;cases this;rfl
def PW(P:Program)(t:TypeId):Option Bool:=match P.underlying t with
 |some (.struct _)|some (.array _ _)=>some true
 |some _=>some false
 |none=>none
theorem Ha{P:Program}{t:TypeId}{b:Bool}(h:PW P t=some b)(w:World):(isAgg t).run P w= .ok b w:=by
 unfold PW at h;unfold isAgg underlying;simp only[Sem.run_bind,run_program,Result.andThen_ok]
 split at h
 all_goals rename_i hu
 all_goals first
  |(cases h;rw[hu];rfl)
  |(cases h;rw[hu];rename_i a1 a2;cases ‹TypeDesc› <;>first|rfl|(exact absurd rfl (a1 _))|(exact absurd rfl (a2 _ _)))
  |cases h
def II(P:Program)(t:TypeId):Option Nat:=(P.info? t).map (·.size)
theorem Cu{P:Program}{t:TypeId}{k:Nat}(h:II P t=some k)(w:World):(sizeOf t).run P w= .ok k w:=by
 unfold II at h;unfold sizeOf typeInfo;simp only[Sem.run_bind,run_program,Result.andThen_ok];cases hi:P.info? t with
 |none=>rw[hi] at h;cases h
 |some i=>rw[hi] at h;cases h;rfl
theorem Bz{P:Program}{t:TypeId}{d:TypeDesc}(h:P.underlying t=some d)(w:World):(underlying t).run P w= .ok d w:=by
 unfold underlying;simp only[Sem.run_bind,run_program,Result.andThen_ok,h];rfl
def WK(P:Program)(t:TypeId)(l:List AV)(o:Nat):Option AV:=match PW P t,II P t with
 |some true,some k=>some (.agg ((l.drop o).take k))
 |some false,_=>l[o]?
 |_,_=>none
def XJ(P:Program)(op:BinOp)(t:TypeId):Option AV:=match P.underlying t,op with
 |some (.pointer _),.eql=>some (.v (.bool false))
 |some (.pointer _),.neq=>some (.v (.bool true))
 |_,_=>none
def Sk(P:Program)(op:BinOp)(t:TypeId):Option AV:=match P.underlying t,op with
 |some (.slice _),.eql=>some (.v (.bool false))
 |some (.slice _),.neq=>some (.v (.bool true))
 |_,_=>none
def Gd(kind:TypeDesc)(k:Value):List (Value×AV)→Nat→Option (Option (Nat×AV))
 |[],_=>some none
 |e::es,i=>match Instr.sameNow kind k e.1 with
   |some true=>some (some (i,e.2))
   |some false=>Gd kind k es (i+1)
   |none=>none
def KV(P:Program)(t:TypeId)(k:Value):List (Value×AV)→Nat→Option (Option (Nat×AV))
 |[],_=>some none
 |e::es,i=>match BP P 1000 (Op.equal t k e.1) with
   |some true=>some (some (i,e.2))
   |some false=>KV P t k es (i+1)
   |none=>none
def Q9(P:Program)(t:TypeId)(k:Value)(es:List (Value×AV)):Option (Option (Nat×AV)):=match P.underlying t with
 |none=>none
 |some d=>match Gd d k es 0 with
   |some r=>some r
   |none=>KV P t k es 0
def LU(P:Program)(t:TypeId):Option Value:=(P.info? t).bind (·.zero)
def vals:List AV→Option (List Value)
 |[]=>some []
 | .v x::l=>(vals l).map (x:: ·)
 |_=>none
def UD:AV→Option Value
 | .v x=>some x
 | .agg l=>(vals l).map fun xs=> .agg xs.toArray
 |_=>none
def Mm{α:Type}(l:List α)(o:Nat):List α→List α
 |[]=>l
 |a::r=>Mm (l.set o a) (o+1) r
def KW(place:Nat→Option (Nat×Nat))(cells:List AV):List (Nat×AV)→Option (List AV)
 |[]=>some cells
 |(i,a)::rest=>match place i with
   |none=>none
   |some (off,size)=>if (Hq a).length≠size||off+(Hq a).length>cells.length then none else KW place (Mm cells off (Hq a)) rest
def places(P:Program):List Field→Option (List (Nat×Nat))
 |[]=>some []
 |f::fs=>match II P f.type,places P fs with
   |some k,some l=>some ((f.offset,k)::l)
   |_,_=>none
def bndA(fr:T AV)(top:Nat):Option Operand→Nat→Option Nat
 |none,d=>some d
 |some x,_=>match opnd fr x with
   |some (.v (.int _ j))=>if 0≤j∧j≤top then some j.toNat else none
   |_=>none
def Tu(P:Program)(h:T AB)(t:TypeId)(a:AV):Option AV:=match a with
 | .ptr b o=>match h.get b with
   |some (.cells l _ _)=>match PW P t,II P t with
     |some true,some k=>if ((l.drop o).take k).length=k then some (.agg ((l.drop o).take k)) else none
     |some false,_=>l[o]?
     |_,_=>none
   |_=>none
 |_=>none
def looks(fr:T AV)(o:Oper):List Nat:=match o.op with
 | .load _ x=>match opnd fr x with
   |some (.ptr b _)=>[b]
   |_=>[]
 | .lookup _ x _ _=>match opnd fr x with
   |some (.map b)=>[b]
   |_=>[]
 | .call c=>match GX fr c.args.toList with
   |some [.map b]=>[b]
   |_=>[]
 |_=>[]
def MemL(P:Program)(E:En)(n:Nat)(h:T AB)(w:World)(l:List Nat):Prop:=∀b ab,b∈l→h.get b=some ab→b < n∧BR P E n w.heap[E.r b]? (E.d b) ab
theorem Mem.l{P:Program}{E:En}{n:Nat}{h:T AB}{w:World}(hM:Mem P E n h w)(l:List Nat):MemL P E n h w l:=fun b ab _ hb=>hM b ab hb
def evR(P:Program)(h:T AB)(fr:T AV)(o:Oper):Option AV:=
 match o.op with
 | .move x| .assign x=>opnd fr x
 | .pick c a b=>match opnd fr c with
   |some (.v (.bool t))=>opnd fr (if t then a else b)
   |_=>none
 | .binOp op t x y _=>match opnd fr x,opnd fr y with
   |some (.v a),some (.v b)=>(BP P 1000 (do eqGuard op t x y a b;binOp op t a b)).map .v
   |some (.ptr _ _),some (.v (.pointer none))=>XJ P op t
   |some (.slc _ _ _ _),some (.v (.slice none 0 0))=>Sk P op t
   |_,_=>none
 | .unOp op _ x=>match opnd fr x with
   |some (.v a)=>(BP P 100 (Op.unary op a)).map .v
   |_=>none
 | .convert s d x=>match opnd fr x with
   |some (.v a)=>(BP P 100 (convert s d a)).map .v
   |_=>none
 | .index t x i=>match opnd fr x,opnd fr i with
   |some (.v a),some (.v b)=>(BP P 100 (Instr.index t a b)).map .v
   |_,_=>none
 | .extract x i=>match opnd fr x with
   |some (.v a)=>(BP P 100 (Instr.extract a i)).map .v
   |some (.tup l)=>l[i]?
   |_=>none
 | .field t x i=>match opnd fr x with
   |some (.v a)=>(BP P 100 (Instr.field t a i)).map .v
   |some (.agg l)=>match P.underlying t with
     |some (.struct fs)=>match fs[i]? with
       |some f=>WK P f.type l f.offset
       |none=>none
     |_=>none
   |_=>none
 | .nilCheck x=>match opnd fr x with
   |some (.ptr b o)=>some (.ptr b o)
   |some (.fn f cs)=>some (.fn f cs)
   |some (.v (.func (.func f) a b))=>some (.v (.func (.func f) a b))
   |_=>none
 | .fieldAddr s x i=>match opnd fr x,P.underlying s with
   |some (.ptr b o),some (.struct fs)=>match fs[i]? with
     |some f=>match II P f.type with
       |some (_+1)=>some (.ptr b (o+f.offset))
       |_=>none
     |none=>none
   |_,_=>none
 | .indexAddr t x i=>match opnd fr x,opnd fr i,P.underlying t with
   |some (.slc b o l _),some (.v (.int _ j)),some (.slice e)=>match II P e with
     |some k=>if 0≤j∧j < (l:Int) then some (.ptr b (o+j.toNat*k)) else none
     |none=>none
   |_,_,_=>none
 | .load t x=>(opnd fr x).bind (Tu P h t)
 | .lookup t x i ok=>match (match opnd fr x with
  |some (.map b)=>match h.get b with
    |some (.map es)=>some es
    |_=>none
  |some (.v (.map none))=>some []
  |_=>none),(opnd fr i).bind UD,P.underlying t with
   |some es,some k,some (.map kt et)=>match BP P 1000 (Instr.checkKey es.isEmpty 10000 kt k),Q9 P kt k es,LU P et with
     |some (),some (some (_,a)),_=>some (if ok then .tup [a,.v (.bool true)] else a)
     |some (),some none,some z=>some (if ok then .tup [.v z,.v (.bool false)] else .v z)
     |_,_,_=>none
   |_,_,_=>none
 | .call c=>match c.callee with
   | .builtin b=>match GX fr c.args.toList with
     |some l=>match b,l,(c.argTypes[0]?).bind P.underlying with
       | .len,[.slc _ _ n _],some (.slice _)=>some (.v (goInt n))
       | .len,[.map m],some (.map _ _)=>match h.get m with
         |some (.map es)=>some (.v (goInt es.length))
         |_=>none
       |_,l,_=>match vals l with
         |some xs=>match BP P 100 (builtin b c.argTypes o.type (c.args.map fun| .const _=>true|_=>false) xs.toArray) with
           |some (.value v)=>some (.v v)
           |_=>none
         |none=>none
     |none=>none
   |_=>none
 | .slice t x lo hi none=>match opnd fr x,P.underlying t with
   |some (.slc b o l c),some (.slice e)=>match II P e,bndA fr c hi l with
     |some k,some H=>match bndA fr H lo 0 with
       |some L=>if (L=0∨L < c)∧H≤c∧L≤H then some (.slc b (o+L*k) (H-L) (c-L)) else none
       |none=>none
     |_,_=>none
   |some (.v a),_=>match lo,hi with
     |none,none=>(BP P 100 (Instr.sliceAt t a none none none)).map .v
     |some x,none=>match opnd fr x with
       |some (.v b)=>(BP P 100 (Instr.sliceAt t a (some b) none none)).map .v
       |_=>none
     |none,some x=>match opnd fr x with
       |some (.v b)=>(BP P 100 (Instr.sliceAt t a none (some b) none)).map .v
       |_=>none
     |some x,some y=>match opnd fr x,opnd fr y with
       |some (.v b),some (.v c)=>(BP P 100 (Instr.sliceAt t a (some b) (some c) none)).map .v
       |_,_=>none
   |_,_=>none
 | .makeFunc (.func f) first cs=>if first.isEmpty then(GX fr cs.toList).map (.fn f) else none
 | .build t ps=>match LU P t,P.underlying t,GX fr (ps.toList.map (·.2)) with
   |some z,some (.struct fs),some l=>match places P fs.toList with
     |some pl=>(KW (fun i=>pl[i]?) (z.cells.toList.map .v) ((ps.toList.map (·.1)).zip l)).map .agg
     |none=>none
   |_,_,_=>none
 |_=>none
section
variable {P:Program} {E:En} {n:Nat} {h:T AB} {fr:T AV} {ρ:Operand→Value} {o:Oper} {w:World}
def Yd(P:Program)(E:En)(n:Nat)(ρ:Operand→Value)(o:Oper)(w:World)(a:AV):Prop:=∃y,VR E n a y∧(execOp ρ o).run P w= .ok (.value y) w
theorem yd_v{s:Sem Value}{k:Nat}{a:AV}(e:(BP P k s).map AV.v=some a)(hx:execOp ρ o=(do pure (.value (←s)))):Yd P E n ρ o w a:=by
 cases hp:BP P k s with
 |none=>rw[hp] at e;cases e
 |some y=>
   rw[hp] at e;cases e;refine⟨y,.v y, ?_⟩;rw[hx];simp only[Sem.run_bind,C8 hp,Result.andThen_ok,Sem.run_pure]
theorem addr_add(b o k:Nat):(⟨b,o,none⟩:Addr).add k=⟨b,o+k,none⟩:=by unfold Addr.add;split <;>simp_all
end
section
variable {P:Program} {E:En} {n:Nat} {h:T AB} {fr:T AV} {ρ:Operand→Value} {o:Oper} {w:World}
theorem JH{a:AV}{y:Value}{s:Sem Value}(hy:VR E n a y)(hs:s.run P w= .ok y w)(hx:execOp ρ o=(do pure (.value (←s)))):Yd P E n ρ o w a:=
 ⟨y,hy,by rw[hx];simp only[Sem.run_bind,hs,Result.andThen_ok,Sem.run_pure]⟩
theorem Uo{t:TypeId}{l:List AV}{xs:List Value}{k:Nat}{a:AV}(hv:VRs E n l xs)(e:WK P t l k=some a):∃y,VR E n a y∧(part t xs.toArray k).run P w= .ok y w:=by
 unfold WK at e;unfold part
 split at e
 ·rename_i s hg hs
  cases e;refine⟨.agg ((xs.drop k).take s).toArray,.agg ((hv.drop k).take s), ?_⟩;simp only[Sem.run_bind,Ha hg,Result.andThen_ok,if_true,Cu hs,Sem.run_pure]
  congr 2
  simp
 ·rename_i hg
  obtain⟨x,hx,hvx⟩:=hv.get e;refine⟨x,hvx, ?_⟩;simp only[Sem.run_bind,Ha hg,Result.andThen_ok,List.getElem?_toArray,hx];rfl
 ·cases e
def Fd(E:En)(n:Nat):Option (Nat×AV)→Option (Nat×Value)→Prop
 |none,r'=>r'=none
 |some (q,a),r'=>∃y,r'=some (q,y)∧VR E n a y
theorem MR.now{d:TypeDesc}{k:Value}:∀{es:List (Value×AV)} {fs:List MapEntry} {j i:Nat} {r:Option (Nat×AV)},MR E n j es fs→Gd d k es i=some r→∃r',Instr.findNow d k fs i=some r'∧Fd E n r r'
 |_,_,_,_,_,.nil,e=>by cases e;exact⟨none,rfl,rfl⟩
 |_,_,_,i,r,.cons h t,e=>by
   unfold Gd at e;unfold Instr.findNow
   split at e
   ·rename_i hs
    cases e;dsimp only at hs⊢;rw[hs];exact⟨_,rfl,_,rfl,h⟩
   ·rename_i hs
    dsimp only at hs⊢;rw[hs];exact MR.now t e
   ·cases e
theorem MR.Qe{d:TypeDesc}{k:Value}:∀{es:List (Value×AV)} {fs:List MapEntry} {j i:Nat},MR E n j es fs→Gd d k es i=none→Instr.findNow d k fs i=none
 |_,_,_,_,.nil,e=>by cases e
 |_,_,_,i,.cons h t,e=>by
   unfold Gd at e;unfold Instr.findNow
   split at e
   ·cases e
   ·rename_i hs
    dsimp only at hs⊢;rw[hs];exact MR.Qe t e
   ·rename_i hs
    dsimp only at hs⊢;rw[hs]
theorem MR.ask{t:TypeId}{k:Value}:∀{es:List (Value×AV)} {fs:List MapEntry} {j i:Nat} {r:Option (Nat×AV)},MR E n j es fs→KV P t k es i=some r→∃r',(Instr.findAsking t k fs i).run P w= .ok r' w∧Fd E n r r'
 |_,_,_,_,_,.nil,e=>by cases e;exact⟨none,rfl,rfl⟩
 |_,_,_,i,r,.cons h t,e=>by
   unfold KV at e;unfold Instr.findAsking
   split at e
   ·rename_i hs
    cases e;dsimp only at hs;simp only[Sem.run_bind,C8 hs,Result.andThen_ok,if_true];exact⟨_,rfl,_,rfl,h⟩
   ·rename_i hs
    dsimp only at hs;simp only[Sem.run_bind,C8 hs,Result.andThen_ok,Bool.false_eq_true,if_false];exact MR.ask t e
   ·cases e
theorem KU{t:TypeId}{k:Value}{es:List (Value×AV)}{fs:List MapEntry}{r:Option (Nat×AV)}(hm:MR E n 0 es fs)(e:Q9 P t k es=some r):∃r',(Instr.findKey t k fs).run P w= .ok r' w∧Fd E n r r':=by
 unfold Q9 at e;unfold Instr.findKey
 split at e
 ·cases e
 ·rename_i d hd
  simp only[Sem.run_bind,Bz hd,Result.andThen_ok]
  split at e
  ·rename_i r0 h0
   cases e;obtain⟨r',h1,h2⟩:=hm.now h0;rw[h1];exact⟨r',rfl,h2⟩
  ·rename_i h0
   rw[hm.Qe h0];exact hm.ask e
theorem Ir{t:TypeId}{z:Value}(e:LU P t=some z):(zeroValue t).run P w= .ok z w:=by
 unfold LU at e;unfold zeroValue typeInfo;simp only[Sem.run_bind,run_program,Result.andThen_ok];cases hi:P.info? t with
 |none=>rw[hi] at e;cases e
 |some i=>
   rw[hi] at e;simp only[Option.bind_some] at e;simp only[Sem.run_pure,Result.andThen_ok,e]
theorem OH:∀{r:List AV} {ys:List Value} {l:List AV} {xs:List Value} {k:Nat},VRs E n r ys→VRs E n l xs→VRs E n (Mm l k r) (Mm xs k ys)
 |_,_,_,_,_,.nil,h=>h
 |_,_,_,_,k,.cons g t,h=>OH (k:=k+1) t (h.set k g)
theorem Ml:∀(ys:List Value) (xs:Array Value) (off i:Nat),((ys.zipIdx i).foldl (fun(cs:Array Value) (c,j)=>cs.setIfInBounds (off+j) c) xs)=(Mm xs.toList (off+i) ys).toArray
 |[],xs,_,_=>by simp[Mm]
 |y::ys,xs,off,i=>by
   rw[List.zipIdx_cons,List.foldl_cons,Ml ys]
   simp[Mm,Nat.add_assoc]
theorem NW{place:Nat→Option (Nat×Nat)}:∀{is:List Nat} {l:List AV} {xs:List Value} {ca r:List AV} {cs:List Value},VRs E n l xs→VRs E n ca cs→KW place ca (is.zip l)=some r→∃rs:List Value,VRs E n r rs∧Instr.fill place cs.toArray (is.zip xs)=some rs.toArray
 |[],l,xs,ca,r,cs,_,hc,e=>by
   simp only[List.zip_nil_left,KW] at e;cases e;exact⟨cs,hc,rfl⟩
 |i::is,_,_,ca,r,cs,.nil,hc,e=>by
   simp only[List.zip_nil_right,KW] at e;cases e;exact⟨cs,hc,rfl⟩
 |i::is,_,_,ca,r,cs,.cons (a:=a) (x:=x) (l:=l) (xs:=xs) hv hl,hc,e=>by
   rw[List.zip_cons_cons] at e⊢;unfold KW at e;unfold Instr.fill
   split at e
   ·cases e
   ·rename_i off size hp
    have hcl:=hv.cells;have h1:=hcl.length;have h2:=hc.length;simp only[Array.length_toList] at h1
    split at e
    ·cases e
    ·rename_i hn
     rw[hp];simp only[List.size_toArray];rw[if_neg (by rw[←h1,←h2];simpa using hn)];have:=OH (k:=off) hcl hc;obtain⟨rs,hr,he⟩:=NW hl this e;refine⟨rs,hr, ?_⟩;rw[←he]
     congr 1
     have hz:=Ml x.cells.toList cs.toArray off 0;simp only[Nat.add_zero] at hz;rw[←hz];rw[←Array.foldl_toList,Array.toList_zipIdx]
 termination_by is=>is.length
theorem Mw:∀{fs:List Field} {pl:List (Nat×Nat)},places P fs=some pl→(fs.mapM (m:=Sem) fun f=>do pure (f.offset,←sizeOf f.type)).run P w= .ok pl w
 |[],pl,e=>by cases e;rfl
 |f::fs,pl,e=>by
   unfold places at e
   split at e
   ·rename_i k l hk hl
    cases e;simp only[List.mapM_cons,Sem.run_bind,Cu hk,Result.andThen_ok,Sem.run_pure,Mw hl]
   ·cases e
theorem O8:∀{l:List AV} {xs ys:List Value},vals l=some xs→VRs E n l ys→ys=xs
 |[],_,_,e,.nil=>by cases e;rfl
 | .v x::l,xs,_,e,.cons h t=>by
   unfold vals at e;cases h;cases hl:vals l with
   |none=>rw[hl] at e;cases e
   |some zs=>rw[hl] at e;cases e;rw[O8 hl t]
 | .ptr .. ::_,_,_,e,_=>by cases e
 | .slc .. ::_,_,_,e,_=>by cases e
 | .map .. ::_,_,_,e,_=>by cases e
 | .fn .. ::_,_,_,e,_=>by cases e
 | .agg .. ::_,_,_,e,_=>by cases e
 | .tup .. ::_,_,_,e,_=>by cases e
theorem UC{a:AV}{x k:Value}(hv:VR E n a x)(e:UD a=some k):x=k:=by
 unfold UD at e
 split at e
 ·cases hv;cases e;rfl
 ·rename_i l
  cases hl:vals l with
  |none=>rw[hl] at e;cases e
  |some ys=>
    rw[hl] at e;cases e;cases hv with|agg h=>
    rw[O8 hl h]
 ·cases e
theorem Ni(hO:Ops E n fr ρ){x:Operand}{top d H:Nat}{c:BoundsCode}(e:bndA fr top (some x) d=some H)(top':Nat)(ht:top≤top'):(Instr.sliceBound (ρ x) top' c).run P w= .ok H w∧H≤top:=by
 simp only[bndA] at e
 split at e
 ·rename_i k j hx
  split at e
  ·rename_i hj
   cases e;rw[hO.v hx];unfold Instr.sliceBound;refine⟨?_,by omega⟩;simp only[asIntOf,Sem.run_bind,Sem.run_pure,Result.andThen_ok];rw[if_pos (by omega)];rfl
  ·cases e
 ·simp at e
end
section
variable {P:Program} {E:En} {n:Nat} {h:T AB} {fr:T AV} {ρ:Operand→Value} {o:Oper} {w:World}
theorem Tt{t:TypeId}{p a:AV}{pv:Value}(hM:∀b o,p= .ptr b o→MemL P E n h w [b])(hp:VR E n p pv)(e:Tu P h t p=some a):∃(ad:Addr) (y:Value),pv= .pointer (some ad)∧VR E n a y∧(loadVar t ad).run P w= .ok y w:=by
 unfold Tu at e
 split at e
 ·rename_i b k
  cases hp
  split at e
  ·rename_i l ty x0 hb
   refine⟨⟨E.r b,k,none⟩, ?_⟩;obtain⟨hbn,xs,rest,hw,hv,-⟩:=hM b k rfl b _ (by simp) hb;have hc:∀(j:Nat) (v:Value),xs[j]? =some v→w.cell? ⟨E.r b,j,none⟩=some v:=by
    intro j v hj;have hlt:j < xs.length:=(List.getElem?_eq_some_iff.1 hj).1;simp only[World.cell?,hw]
    simp[List.getElem?_append_left hlt,hj]
   unfold loadVar
   split at e
   ·rename_i s hg hs
    split at e
    ·rename_i hlen
     cases e;have hv2:=(hv.drop k).take s;have h2:=hv2.length;refine⟨.agg ((xs.drop k).take s).toArray,rfl,.agg hv2, ?_⟩;simp only[Sem.run_bind,Ha hg,Result.andThen_ok,if_true,Cu hs];have h3:s=((xs.drop k).take s).length:=hlen.symm.trans h2;have:=run_loadCells_list (P:=P) w ⟨E.r b,k,none⟩ ((xs.drop k).take s) (fun j v hj=>by
      rw[addr_add];refine hc _ _ ?_;rw[List.getElem?_take] at hj
      split at hj
      ·rw[List.getElem?_drop] at hj;exact hj
      ·cases hj)
     rw[←h3] at this;simp only[this,Result.andThen_ok,Sem.run_pure]
    ·cases e
   ·rename_i hg
    obtain⟨x,hx,hvx⟩:=hv.get e;refine⟨x,rfl,hvx, ?_⟩;simp only[Sem.run_bind,Ha hg,Result.andThen_ok,Bool.false_eq_true,if_false,run_load,hc _ _ hx]
   ·cases e
  ·cases e
 ·cases e
theorem Y3{t q:TypeId}{b:Addr}(hq:P.underlying t=some (.pointer q)):(Op.equal t (.pointer (some b)) (.pointer none)).run P w= .ok false w:=by
 show(Op.equalIn (9999+1) t (.pointer (some b)) (.pointer none)).run P w=_;rw[Op.equalIn,Sem.run_bind,Bz hq];rfl
theorem XI{op:BinOp}{t:TypeId}{x y:Operand}{a:AV}{b k:Nat}(e:XJ P op t=some a):
 ∃z,VR E n a z∧(do eqGuard op t x y (.pointer (some ⟨b,k,none⟩)) (.pointer none);binOp op t (.pointer (some ⟨b,k,none⟩)) (.pointer none):Sem Value).run P w= .ok z w:=by
 unfold XJ at e
 split at e
 all_goals first|cases e|skip
 all_goals
  rename_i q hq
  refine⟨_,.v _, ?_⟩;simp only[eqGuard,binOp,Sem.run_bind,Y3 hq,Result.andThen_ok,Sem.run_pure];rfl
theorem Yr{t q:TypeId}{b:Addr}{l c:Nat}(hq:P.underlying t=some (.slice q)):(Op.equal t (.slice (some b) l c) (.slice none 0 0)).run P w= .ok false w:=by
 show(Op.equalIn (9999+1) t (.slice (some b) l c) (.slice none 0 0)).run P w=_;rw[Op.equalIn,Sem.run_bind,Bz hq];rfl
theorem VO{op:BinOp}{t:TypeId}{x y:Operand}{a:AV}{b:Addr}{l c:Nat}(e:Sk P op t=some a):
 ∃z,VR E n a z∧(do eqGuard op t x y (.slice (some b) l c) (.slice none 0 0);binOp op t (.slice (some b) l c) (.slice none 0 0):Sem Value).run P w= .ok z w:=by
 unfold Sk at e
 split at e
 all_goals first|cases e|skip
 all_goals
  rename_i q hq
  refine⟨_,.v _, ?_⟩;simp only[eqGuard,binOp,Sem.run_bind,Yr hq,Result.andThen_ok,Sem.run_pure];rfl
theorem VA{t kt et:TypeId}{mv k:Value}{ok:Bool}{es:List (Value×AV)}{a:AV}(hu:P.underlying t=some (.map kt et))
 (hm:(mv= .map none∧es=[])∨∃b,mv= .map (some (E.r b))∧h.get b=some (.map es)∧MemL P E n h w [b])
 (e : (match BP P 1000 (Instr.checkKey es.isEmpty 10000 kt k), Q9 P kt k es, LU P et with
  |some (),some (some (_,a)),_=>some (if ok then .tup [a,.v (.bool true)] else a)
  |some (),some none,some z=>some (if ok then .tup [.v z,.v (.bool false)] else .v z)
  |_,_,_=>none)=some a):∃y,VR E n a y∧(Instr.lookup t mv k ok).run P w= .ok y w:=by
 obtain⟨fs,hfs,hemp,hrun⟩:∃fs:List MapEntry,MR E n 0 es fs∧fs.toArray.isEmpty=es.isEmpty∧(Instr.lookup t mv k ok).run P w=((Instr.checkKey fs.toArray.isEmpty 10000 kt k).run P w).andThen fun _ w'=>
  ((Instr.findKey kt k fs).run P w').andThen fun r w''=>(match r with
    |some (_,v)=>pure (if ok then .tuple #[v,.bool true] else v)
    |none=>do
      let z←zeroValue et
      pure (if ok then .tuple #[z,.bool false] else z):Sem Value).run P w'':=by
  unfold Instr.lookup;rcases hm with⟨rfl,rfl⟩|⟨b,rfl,hb,hM⟩
  ·refine⟨[],.nil,rfl, ?_⟩
   simp only[Sem.run_bind,Bz hu,Result.andThen_ok,Sem.run_pure];rfl
  ·obtain⟨-,fs,hw,hf⟩:=hM b _ (by simp) hb
   refine⟨fs,hf,by cases hf <;>rfl, ?_⟩;simp only[Sem.run_bind,getObj,Sem.run,hw,Bz hu,Result.andThen_ok,Sem.run_pure];rfl
 rw[hrun,hemp]
 split at e
 ·rename_i hc hf
  cases e;obtain⟨r',h1,y,rfl,hy⟩:=KU (w:=w) hfs hf;simp only[C8 hc,Result.andThen_ok,h1,Sem.run_pure];cases ok
  ·exact⟨y,hy,rfl⟩
  ·exact⟨_,.tup (.cons hy (.cons (.v _) .nil)),rfl⟩
 ·rename_i hc hf hz
  cases e;obtain⟨r',h1,h2⟩:=KU (w:=w) hfs hf;have h2:r'=none:=h2;subst h2;simp only[Sem.run_bind,C8 hc,Result.andThen_ok,h1,Sem.run_pure,Ir hz];cases ok
  ·exact⟨_,.v _,rfl⟩
  ·exact⟨_,.tup (.cons (.v _) (.cons (.v _) .nil)),rfl⟩
 ·cases e
theorem Yt{c d L b k s:Nat}(hc:L=0∨L < c):(if c+d=L then(some ⟨b,k,none⟩:Option Addr) else some ((⟨b,k,none⟩:Addr).add (L*s)))=some ⟨b,k+L*s,none⟩∧c+d-L=c-L+d:=by
 refine⟨?_,by omega⟩;by_cases hm:c+d=L
 ·have hL0:L=0:=by omega
  subst hL0
  simp[hm]
 ·rw[if_neg hm,addr_add]
theorem Vz(hO:Ops E n fr ρ){t e:TypeId}{b k l c s:Nat}{lo hi:Option Operand}{L H:Nat}(hb:b < n)(hu:P.underlying t=some (.slice e))(hs:II P e=some s)(eH:bndA fr c hi l=some H)(eL:bndA fr H lo 0=some L)
 (hc:(L=0∨L < c)∧H≤c∧L≤H):(Instr.sliceAt t (.slice (some ⟨E.r b,k,none⟩) l (c+E.d b)) (lo.map ρ) (hi.map ρ) none).run P w= .ok (.slice (some ⟨E.r b,k+L*s,none⟩) (H-L) (c-L+E.d b)) w:=by
 unfold Instr.sliceAt;simp only[Sem.run_bind,Bz hu,Result.andThen_ok];unfold Instr.slice;simp only[Sem.run_bind,Bz hu,Result.andThen_ok];unfold Instr.sliceBounds;have hq:= @Yt c (E.d b) L (E.r b) k s hc.1;cases hi with
 |none=>
   cases eH;cases lo with
   |none=>
     cases eL;simp only[Option.map_none,Option.map_some,Sem.run_bind,Sem.run_pure,Result.andThen_ok,Cu hs,hq.1,hq.2]
   |some x=>
     have h2:=fun c=>(Ni (P:=P) (w:=w) (c:=c) hO eL _ (Nat.le_refl _)).1;simp only[Option.map_none,Option.map_some,Sem.run_bind,Sem.run_pure,Result.andThen_ok,h2,Cu hs,hq.1,hq.2]
 |some y=>
   have h1:=fun c=>(Ni (P:=P) (w:=w) (c:=c) hO eH _ (Nat.le_add_right _ (E.d b))).1;cases lo with
   |none=>
     cases eL;simp only[Option.map_none,Option.map_some,Sem.run_bind,Sem.run_pure,Result.andThen_ok,h1,Cu hs,hq.1,hq.2]
   |some x=>
     have h2:=fun c=>(Ni (P:=P) (w:=w) (c:=c) hO eL _ (Nat.le_refl _)).1;simp only[Option.map_some,Sem.run_bind,Sem.run_pure,Result.andThen_ok,h1,h2,Cu hs,hq.1,hq.2]
theorem XR{t:TypeId}{z:Value}{fs:Array Field}{ps:Array (Nat×Operand)}{l r:List AV}{pl:List (Nat×Nat)}(hO:Ops E n fr ρ)(hz:LU P t=some z)(hu:P.underlying t=some (.struct fs))(hl:GX fr (ps.toList.map (·.2))=some l)
 (hp:places P fs.toList=some pl) (hf:KW (fun i=>pl[i]?) (z.cells.toList.map .v) ((ps.toList.map (·.1)).zip l)=some r):∃y,VR E n (.agg r) y∧(Instr.build t (ps.map fun(i,x)=>(i,ρ x))).run P w= .ok y w:=by
 obtain⟨rs,hr,hrun⟩:=NW (E:=E) (n:=n) (hO.all hl) (VRs.vs z.cells.toList) hf;refine⟨_,.agg hr, ?_⟩;have hpl:(fs.mapM (m:=Sem) fun f=>do pure (f.offset,←sizeOf f.type)).run P w= .ok pl.toArray w:=by
  rw[Array.mapM_eq_mapM_toList,Sem.run_map,Mw hp];rfl
 unfold Instr.build;simp only[Sem.run_bind,Ir hz,Bz hu,Result.andThen_ok,hpl];have h2:(ps.map fun(i,x)=>(i,ρ x)).toList=(ps.toList.map (·.1)).zip ((ps.toList.map (·.2)).map ρ):=by
  rw[Array.toList_map];generalize ps.toList=q
  induction q with
  |nil=>rfl
  |cons a q ih=>
    obtain⟨i,x⟩:=a;simpa using ih
 rw[h2];have h3:Instr.fill (fun i=>pl.toArray[i]?) z.cells ((ps.toList.map (·.1)).zip ((ps.toList.map (·.2)).map ρ))=some rs.toArray:=by
  have:(fun i=>pl.toArray[i]?)=fun i=>pl[i]? :=funext fun i=>List.getElem?_toArray;rw[this];simpa using hrun
 rw[h3];rfl
theorem amap(f:Operand→Value)(l:Array Operand):l.map f=(l.toList.map f).toArray:=Array.ext' (by simp)
theorem MR.length{k:Nat}{es:List (Value×AV)}{fs:List MapEntry}(h:MR E n k es fs):es.length=fs.length:=by
 induction h with
 |nil=>rfl
 |cons _ _ ih=>simp[ih]
theorem Sd(hM:MemL P E n h w (looks fr o))(hO:Ops E n fr ρ){a:AV}(e:evR P h fr o=some a):Yd P E n ρ o w a:=by
 unfold evR at e
 split at e
 ·rename_i x hop
  exact⟨_,hO x a e,by unfold execOp;rw[hop];rfl⟩
 ·rename_i x hop
  exact⟨_,hO x a e,by unfold execOp;rw[hop];rfl⟩
 ·rename_i c x y hop
  split at e
  ·rename_i t hc
   refine⟨_,hO _ a e, ?_⟩;unfold execOp;rw[hop];simp only[hO.v hc,asBool,Sem.run_bind,Sem.run_pure,Result.andThen_ok];cases t <;>rfl
  ·cases e
 ·rename_i op t x y u hop
  split at e
  ·rename_i p q hx hy
   exact yd_v e (by unfold execOp;rw[hop];simp only[hO.v hx,hO.v hy])
  ·rename_i b k hx hy
   have h1:=hO _ _ hx;cases h1':ρ x with
   |pointer p=>
     rw[h1'] at h1;cases h1 with
     |ptr hb=>
       obtain⟨z,hz,hr⟩:=XI (w:=w) (x:=x) (y:=y) (b:=E.r b) (k:=k) e;exact JH hz hr (by unfold execOp;rw[hop];simp only[h1',hO.v hy])
   |_=>rw[h1'] at h1;cases h1
  ·rename_i b k l c hx hy
   have h1:=hO _ _ hx;generalize h1':ρ x=p at h1;cases h1 with
   |slc hb=>
     obtain⟨z,hz,hr⟩:=VO (w:=w) (x:=x) (y:=y) (b:=⟨E.r b,k,none⟩) (l:=l) (c:=c+E.d b) e;exact JH hz hr (by unfold execOp;rw[hop];simp only[h1',hO.v hy])
  ·cases e
 ·rename_i op t x hop
  split at e
  ·rename_i p hx
   exact yd_v e (by unfold execOp;rw[hop];simp only[hO.v hx])
  ·cases e
 ·rename_i s d x hop
  split at e
  ·rename_i p hx
   exact yd_v e (by unfold execOp;rw[hop];simp only[hO.v hx])
  ·cases e
 ·rename_i t x i hop
  split at e
  ·rename_i p q hx hi
   exact yd_v e (by unfold execOp;rw[hop];simp only[hO.v hx,hO.v hi])
  ·cases e
 ·rename_i x i hop
  split at e
  ·rename_i p hx
   exact yd_v e (by unfold execOp;rw[hop];simp only[hO.v hx])
  ·rename_i l hx
   have h1:=hO _ _ hx;generalize hr:ρ x=y at h1;cases h1 with
   |tup hv=>
     rename_i xs
     obtain⟨y,hy,hvy⟩:=hv.get e;exact JH hvy (s:=Instr.extract (.tuple xs.toArray) i) (by unfold Instr.extract;simp[hy]) (by unfold execOp;rw[hop];simp only[hr])
  ·cases e
 ·rename_i t x i hop
  split at e
  ·rename_i p hx
   exact yd_v e (by unfold execOp;rw[hop];simp only[hO.v hx])
  ·rename_i l hx
   split at e
   ·rename_i fs hu
    split at e
    ·rename_i f hf
     have h1:=hO _ _ hx;generalize hr:ρ x=y at h1;cases h1 with
     |agg hv=>
       rename_i xs
       obtain⟨y,hy,hrun⟩:=Uo (P:=P) (w:=w) hv e;exact JH hy (s:=Instr.field t (.agg xs.toArray) i) (by unfold Instr.field;simp only[Sem.run_bind,Bz hu,Result.andThen_ok,hf,asAgg,Sem.run_pure,hrun]) (by unfold execOp;rw[hop];simp only[hr])
    ·cases e
   ·cases e
  ·cases e
 ·rename_i x hop
  split at e
  ·rename_i b k hx
   cases e;have h1:=hO _ _ hx;generalize hr:ρ x=y at h1;cases h1 with
   |ptr hb=>exact⟨_,.ptr hb,by unfold execOp;rw[hop];simp only[hr];rfl⟩
  ·rename_i f cs hx
   cases e;have h1:=hO _ _ hx;generalize hr:ρ x=y at h1;cases h1 with
   |fn hv=>exact⟨_,.fn hv,by unfold execOp;rw[hop];simp only[hr];rfl⟩
  ·rename_i f p q hx
   cases e;exact⟨_,.v _,by unfold execOp;rw[hop];simp only[hO.v hx];rfl⟩
  ·cases e
 ·rename_i s x i hop
  split at e
  ·rename_i b k fs hx hu
   split at e
   ·rename_i f hf
    split at e
    ·rename_i z hz
     cases e;have h1:=hO _ _ hx;generalize hr:ρ x=y at h1;cases h1 with
     |ptr hb=>
       refine JH (.ptr hb) (s:=Instr.fieldAt s (.pointer (some ⟨E.r b,k,none⟩)) i) ?_ (by unfold execOp;rw[hop];simp only[hr]);unfold Instr.fieldAt Instr.sureAddr fieldPlace;simp only[Sem.run_bind,Bz hu,Result.andThen_ok,hf,Sem.run_pure,Cu hz];rw[if_neg (Nat.succ_ne_zero z)];simp only[Sem.run_pure,Result.andThen_ok,addr_add]
    ·cases e
   ·cases e
  ·cases e
 ·rename_i t x i hop
  split at e
  ·rename_i b k l c q j et hx hi hu
   split at e
   ·rename_i z hz
    split at e
    ·rename_i hj
     cases e;have h1:=hO _ _ hx;generalize hr:ρ x=y at h1;cases h1 with
     |slc hb=>
       refine JH (.ptr hb) (s:=Instr.indexAt t (.slice (some ⟨E.r b,k,none⟩) l (c+E.d b)) (.int q j)) ?_ (by unfold execOp;rw[hop];simp only[hr,hO.v hi]);unfold Instr.indexAt;simp only[asIntOf,Sem.run_bind,Bz hu,Result.andThen_ok,Sem.run_pure,Cu hz];rw[if_pos hj];simp only[Sem.run_bind,Cu hz,Sem.run_pure,Result.andThen_ok,addr_add]
    ·cases e
   ·cases e
  ·cases e
 ·rename_i t x hop
  obtain⟨p,hx,e⟩:=Option.bind_eq_some_iff.1 e;obtain⟨ad,y,hp,hy,hrun⟩:=Tt (fun b k hb=>by
   have:looks fr o=[b]:=by unfold looks;rw[hop];dsimp only;rw[hx,hb]
   exact this ▸ hM) (hO _ _ hx) e
  exact JH hy (s:=Instr.loadAt t (.pointer (some ad))) (by unfold Instr.loadAt Instr.sureAddr;simp only[Sem.run_bind,Sem.run_pure,Result.andThen_ok,hrun]) (by unfold execOp;rw[hop];simp only[hp])
 ·rename_i t x i ok hop
  split at e
  ·rename_i es k kt et hes hi hu
   have hmv:(ρ x= .map none∧es=[])∨∃b,ρ x= .map (some (E.r b))∧h.get b=some (.map es)∧MemL P E n h w [b]:=by
    split at hes
    ·rename_i b hx
     split at hes
     ·rename_i es' hb
      cases hes;have h1:=hO _ _ hx;generalize hr:ρ x=z at h1;cases h1;have:looks fr o=[b]:=by unfold looks;rw[hop];dsimp only;rw[hx]
      exact .inr ⟨b,rfl,hb,this ▸ hM⟩
     ·cases hes
    ·rename_i hx
     cases hes;exact .inl ⟨hO.v hx,rfl⟩
    ·cases hes
   obtain⟨ak,hak,hkk⟩:=Option.bind_eq_some_iff.1 hi;obtain⟨y,hy,hrun⟩:=VA (P:=P) hu hmv e;exact JH hy hrun (by unfold execOp;rw[hop];simp only[UC (hO _ _ hak) hkk])
  ·cases e
 ·rename_i c hop
  split at e
  ·rename_i b hcal
   split at e
   ·rename_i l hl
    have hv:=hO.all hl;have hx:∀r,(builtin b c.argTypes o.type (c.args.map fun| .const _=>true|_=>false) ((c.args.toList.map ρ).toArray)).run P w=r→(execOp ρ o).run P w=r:=by
     rintro r rfl;unfold execOp;rw[hop];unfold resolve;simp only[hcal,Sem.run_bind,Sem.run_pure,Result.andThen_ok,invoke];rw[amap];rfl
    generalize hys:c.args.toList.map ρ=ys at hv hx
    split at e
    ·rename_i b0 k0 m0 c0 q hu
     cases e;obtain⟨t,ht,hu⟩:=Option.bind_eq_some_iff.1 hu;cases hv with|cons h1 h2=>cases h2;cases h1 with|slc hb=>
     refine⟨_,.v _,hx _ ?_⟩;unfold builtin Builtin.len_
     simp[ht,Bz hu]
    ·rename_i m0 q1 q2 hu
     split at e
     ·rename_i es hm
      cases e;obtain⟨t,ht,hu⟩:=Option.bind_eq_some_iff.1 hu;obtain⟨-,fs,hw,hf⟩:=hM m0 _ (by unfold looks;rw[hop];dsimp only;rw[hl];simp) hm;cases hv with|cons h1 h2=>cases h2;cases h1 with|map hb=>
      refine⟨_,.v _,hx _ ?_⟩;unfold builtin Builtin.len_;have hlen:fs.length=es.length:=hf.length.symm
      simp[ht,Bz hu,getObj,Sem.run,hw,hlen]
     ·cases e
    ·split at e
     ·rename_i xs hvs
      split at e
      ·rename_i v hp
       cases e;have:=O8 hvs hv;subst this;exact⟨v,.v v,hx _ (C8 hp w)⟩
      ·cases e
     ·cases e
   ·cases e
  ·cases e
 ·rename_i t x lo hi hop
  split at e
  ·rename_i b k l c et hx hu
   split at e
   ·rename_i s H hs hH
    split at e
    ·rename_i L hL
     split at e
     ·rename_i hc
      cases e;have h1:=hO _ _ hx;generalize hr:ρ x=z at h1;cases h1 with
      |slc hb=>exact JH (.slc hb) (Vz hO hb hu hs hH hL hc) (by unfold execOp;rw[hop];simp only[hr];rfl)
     ·cases e
    ·cases e
   ·cases e
  ·rename_i p hx
   split at e
   ·exact yd_v e (by unfold execOp;rw[hop];simp only[hO.v hx];rfl)
   ·split at e
    ·rename_i q hq
     exact yd_v e (by unfold execOp;rw[hop];simp only[hO.v hx,Option.map_some,hO.v hq];rfl)
    ·cases e
   ·split at e
    ·rename_i q hq
     exact yd_v e (by unfold execOp;rw[hop];simp only[hO.v hx,Option.map_some,hO.v hq];rfl)
    ·cases e
   ·split at e
    ·rename_i q q' hq hq'
     exact yd_v e (by unfold execOp;rw[hop];simp only[hO.v hx,Option.map_some,hO.v hq,hO.v hq'];rfl)
    ·cases e
  ·cases e
 ·rename_i f first cs hop
  split at e
  ·rename_i hf
   cases hl:GX fr cs.toList with
   |none=>rw[hl] at e;cases e
   |some l=>
     rw[hl] at e;cases e;refine⟨_,.fn (hO.all hl), ?_⟩;have key:execOp ρ o=(do pure (.value (←Instr.makeFunc (.func f) (first.map ρ) (cs.map ρ)))):=by unfold execOp;rw[hop]
     have h0:first= #[]:=by simpa using hf
     subst h0;rw[key,amap ρ cs,Array.map_empty];rfl
  ·cases e
 ·rename_i t ps hop
  split at e
  ·rename_i z fs l hz hu hl
   split at e
   ·rename_i pl hp
    cases hf:KW (fun i=>pl[i]?) (z.cells.toList.map .v) ((ps.toList.map (·.1)).zip l) with
    |none=>rw[hf] at e;cases e
    |some r=>
      rw[hf] at e;cases e;obtain⟨y,hy,hrun⟩:=XR (w:=w) hO hz hu hl hp hf;exact JH hy hrun (by unfold execOp;rw[hop])
   ·cases e
  ·cases e
 ·cases e
end
end Go.Proofs.YtijhlanclfajiaaGreatDoor.Ev
namespace Go.Proofs.YtijhlanclfajiaaGreatDoor.Ev
open Go Go.RowKit
structure WR (P:Program) (w0:World) (E:En) (n:Nat) (h:T AB) (w:World):Prop where
 mem:Mem P E n h w
 new:∀b ab,h.get b=some ab→w0.heap.size≤E.r b
 inj:∀b b' ab ab',h.get b=some ab→h.get b'=some ab'→E.r b=E.r b'→b=b'
 bel:Below w0.heap.size w0 w
def Kp(n:Nat)(ws:List Nat)(h h':T AB):Prop:=∀b,b < n→b∉ws→h'.get b=h.get b
theorem Kp.refl(n:Nat)(ws:List Nat)(h:T AB):Kp n ws h h:=fun _ _ _=>rfl
theorem Kp.trans{n n':Nat}{ws ws' us:List Nat}{h h' h'':T AB}(a:Kp n ws h h')(b:Kp n' ws' h' h'')(hn:n≤n')(u1:∀x,x < n→x∈ws→x∈us)(u2:∀x,x < n→x∈ws'→x∈us):Kp n us h h'':=fun x hx hu=>
 (b x (Nat.lt_of_lt_of_le hx hn) fun h=>hu (u2 x hx h)).trans (a x hx fun h=>hu (u1 x hx h))
structure Alike (w w':World):Prop where
 os:w'.os=w.os
 tape:w'.tape=w.tape
 output:w'.output=w.output
section
variable {P:Program} {w0:World} {E:En} {n:Nat} {h h':T AB} {w w':World}
theorem WR.lt(H:WR P w0 E n h w){b:Nat}{ab:AB}(hb:h.get b=some ab):E.r b < w.heap.size:=by
 obtain⟨-,h2⟩:=H.mem b ab hb;cases ab with
 |cells l ty x=>obtain⟨xs,rest,hw,-⟩:=h2;exact(Array.getElem?_eq_some_iff.1 hw).1
 |map es=>obtain⟨fs,hw,-⟩:=h2;exact(Array.getElem?_eq_some_iff.1 hw).1
theorem WR.turn(H:WR P w0 E n h w){b:Nat}{ab0 ab:AB}{o:Obj}(hb:h.get b=some ab0)(hp:T.put 20 h b (some ab)=some h')(A:Alike w w')(hs:w'.heap.size=w.heap.size)
 (hw:w'.heap[E.r b]? =some o) (ho:∀k,k≠E.r b→w'.heap[k]? =w.heap[k]?) (hbr:BR P E n (some o) (E.d b) ab):WR P w0 E n h' w'∧Kp n [b] h h':=by
 have hg:=T.get_put _ _ _ _ _ hp;refine⟨⟨fun c ac hc=> ?_,fun c ac hc=> ?_,fun c c' ac ac' hc hc' e=> ?_,⟨A.os.trans H.bel.os,A.tape.trans H.bel.tape,A.output.trans H.bel.output,hs ▸ H.bel.size,fun k hk=> ?_⟩⟩,fun c hc hn=> ?_⟩
 ·rw[hg] at hc
  split at hc
  ·rename_i e
   subst e;cases hc;exact⟨(H.mem _ _ hb).1,by rw[hw];exact hbr⟩
  ·rename_i e
   rw[ho _ fun e2=>e (H.inj _ _ _ _ hc hb e2)];exact H.mem c ac hc
 ·rw[hg] at hc
  split at hc
  ·rename_i e
   subst e;exact H.new _ _ hb
  ·exact H.new _ _ hc
 ·rw[hg] at hc hc'
  have k1:∃a,h.get c=some a:=by
   split at hc
   ·rename_i e;exact⟨ab0,e ▸ hb⟩
   ·exact⟨ac,hc⟩
  have k2:∃a,h.get c'=some a:=by
   split at hc'
   ·rename_i e;exact⟨ab0,e ▸ hb⟩
   ·exact⟨ac',hc'⟩
  obtain⟨a1,k1⟩:=k1;obtain⟨a2,k2⟩:=k2;exact H.inj _ _ _ _ k1 k2 e
 ·rw[ho k fun e=>by have:=H.new _ _ hb;omega]
  exact H.bel.block k hk
 ·rw[hg,if_neg (by simpa using hn)]
def En.put(E:En)(n k d:Nat):En:=⟨fun b=>if b=n then k else E.r b,fun b=>if b=n then d else E.d b⟩
theorem En.le(E:En)(n k d:Nat):Le E n (E.put n k d) (n+1):=⟨fun b hb=>if_neg (Nat.ne_of_lt hb),fun b hb=>if_neg (Nat.ne_of_lt hb),Nat.le_succ n⟩
theorem WR.grow(H:WR P w0 E n h w){k d:Nat}{ab:AB}{o:Obj}(hp:T.put 20 h n (some ab)=some h')(A:Alike w w')(hs:w.heap.size≤w'.heap.size)
 (hk:w'.heap[k]? =some o) (ho:∀q,q < w.heap.size→q≠k→w'.heap[q]? =w.heap[q]?) (hk0:w0.heap.size≤k) (hfree:∀b ab,h.get b=some ab→E.r b≠k) (hbr:BR P E n (some o) d ab):WR P w0 (E.put n k d) (n+1) h' w'∧Kp n [] h h':=by
 have hg:=T.get_put _ _ _ _ _ hp;have L:=E.le n k d;have hold:∀c ac,h.get c=some ac→c≠n:=fun c ac hc=>Nat.ne_of_lt (H.mem c ac hc).1;refine⟨⟨fun c ac hc=> ?_,fun c ac hc=> ?_,fun c c' ac ac' hc hc' e=> ?_,⟨A.os.trans H.bel.os,A.tape.trans H.bel.tape,A.output.trans H.bel.output,Nat.le_trans H.bel.size hs,fun q hq=> ?_⟩⟩,fun c hc hn=> ?_⟩
 ·rw[hg] at hc
  split at hc
  ·rename_i e
   subst e;cases hc;refine⟨Nat.lt_succ_self _, ?_⟩;rw[show(E.put c k d).r c=k from if_pos rfl,show(E.put c k d).d c=d from if_pos rfl,hk];exact hbr.mono L
  ·rename_i e
   obtain⟨h1,h2⟩:=H.mem c ac hc;refine⟨Nat.lt_succ_of_lt h1, ?_⟩;rw[L.r c h1,L.d c h1,ho _ (H.lt hc) (hfree _ _ hc)];exact h2.mono L
 ·rw[hg] at hc
  split at hc
  ·rename_i e
   subst e;rw[show(E.put c k d).r c=k from if_pos rfl];exact hk0
  ·rw[L.r c (H.mem c ac hc).1]
   exact H.new _ _ hc
 ·rw[hg] at hc hc'
  split at hc <;>split at hc'
  ·rename_i e1 e2;rw[e1,e2]
  ·rename_i e1 e2
   exfalso;subst e1;rw[show(E.put c k d).r c=k from if_pos rfl,L.r c' (H.mem c' ac' hc').1] at e;exact hfree _ _ hc' e.symm
  ·rename_i e1 e2
   exfalso;subst e2;rw[show(E.put c' k d).r c'=k from if_pos rfl,L.r c (H.mem c ac hc).1] at e;exact hfree _ _ hc e
  ·rw[L.r c (H.mem c ac hc).1,L.r c' (H.mem c' ac' hc').1] at e
   exact H.inj _ _ _ _ hc hc' e
 ·have hb:=H.bel.size
  rw[ho q (by omega) (by omega)];exact H.bel.block q hq
 ·rw[hg,if_neg (by omega)]
theorem WR.drop(H:WR P w0 E n h w){b:Nat}(hp:T.put 20 h b none=some h'):WR P w0 E n h' w∧Kp n [b] h h'∧h'.get b=none:=by
 have hg:=T.get_put _ _ _ _ _ hp;have hh:∀c ac,h'.get c=some ac→h.get c=some ac:=fun c ac hc=>by
  rw[hg] at hc
  split at hc
  ·cases hc
  ·exact hc
 exact⟨⟨fun c ac hc=>H.mem c ac (hh c ac hc),fun c ac hc=>H.new c ac (hh c ac hc),fun c c' ac ac' hc hc' e=>H.inj _ _ _ _ (hh _ _ hc) (hh _ _ hc') e,H.bel⟩,fun c hc hn=>by rw[hg,if_neg (by simpa using hn)],by rw[hg,if_pos rfl]⟩
theorem WR.alloc(H:WR P w0 E n h w){ab:AB}{o:Obj}(hp:T.put 20 h n (some ab)=some h')(hw:w'.heap=w.heap.push o)(A:Alike w w'){d:Nat}(hbr:BR P E n (some o) d ab):WR P w0 (E.put n w.heap.size d) (n+1) h' w'∧Kp n [] h h':=by
 refine H.grow hp A (by rw[hw];simp) (by rw[hw];simp) (fun q hq hne=> ?_) H.bel.size (fun b ab hb=>Nat.ne_of_lt (H.lt hb)) hbr;rw[hw,Array.getElem?_push,if_neg hne]
end
def oneA:AV→Bool
 | .agg _| .tup _| .v (.agg _)| .v (.tuple _)=>false
 |_=>true
def JS{α:Type}(l:List α)(o:Nat)(new:List α):List α:=l.take o++new++l.drop (o+new.length)
def tailA(h:T AB)(size:Nat):AV→Option (Nat×List AV)
 | .slc b o n _=>match h.get b with
   |some (.cells l _ _)=>if ((l.drop o).take (n*size)).length=n*size then some (n,(l.drop o).take (n*size)) else none
   |_=>none
 |_=>none
def FZ(h:T AB)(n:Nat)(ab:AB)(a:AV)(ws:List Nat):Option (AV×T AB×Nat×List Nat):=match T.put 20 h n (some ab) with
 |some h'=>some (a,h',n+1,ws)
 |none=>none
def appA(P:Program)(h:T AB)(n:Nat)(ts:List TypeId)(s x:AV):Option (AV×T AB×Nat×List Nat):=match ts with
 |[t,t']=>if t≠t' then none else match P.underlying t with
   |some (.slice e)=>match P.info? e with
     |some i=>match i.zero,tailA h i.size x with
       |some z,some (m,new)=>if z.cells.size=i.size∧i.bytes≤1000∧0 < m∧m≤100000∧new.all oneA then match s with
         | .v (.slice none 0 0)=>FZ h n (.cells new e false) (.slc n 0 m m) []
         | .slc b 0 l c=>match h.get b with
           |some (.cells ls ty x)=>if ty≠e∨100000 < l then none else
             if l+m≤c then
              (if l * i.size + new.length ≤ ls.length then match T.put 20 h b (some (.cells (JS ls (l * i.size) new) ty x)) with
               |some h'=>some (.slc b 0 (l+m) c,h',n,[b])
               |none=>none
              else none)
             else if ls.length=c*i.size∧l≤c then match T.put 20 h b none with
              |some h1=>FZ h1 n (.cells (ls.take (l*i.size)++new) e false) (.slc n 0 (l+m) (l+m)) [b]
              |none=>none
             else none
           |_=>none
         |_=>none
         else none
       |_,_=>none
     |none=>none
   |_=>none
 |_=>none
def updA(P:Program)(h:T AB)(n:Nat)(t:TypeId)(m k x:AV):Option (AV×T AB×Nat×List Nat):=match m,UD k,P.underlying t with
 | .map b,some k,some (.map kt _)=>match h.get b with
   |some (.map es)=>match BP P 1000 (Instr.checkKey false 10000 kt k),Q9 P kt k es with
     |some (),some none=>match T.put 20 h b (some (.map (es++[(k,x)]))) with
       |some h'=>some (.v undef,h',n,[b])
       |none=>none
     |some (),some (some (i,_))=>if (match es[i]? with|some e=>Instr.sameBits 10000 e.1 k|none=>false) then match T.put 20 h b (some (.map (es.set i (k,x)))) with
      |some h'=>some (.v undef,h',n,[b])
      |none=>none
       else none
     |_,_=>none
   |_=>none
 |_,_,_=>none
def evW(P:Program)(h:T AB)(n:Nat)(fr:T AV)(o:Oper):Option (AV×T AB×Nat×List Nat):=
 match o.op with
 | .alloc e=>match LU P e with
   |some z=>FZ h n (.cells (z.cells.toList.map .v) e true) (.ptr n 0) []
   |none=>none
 | .box e x=>match opnd fr x with
   |some a=>FZ h n (.cells (Hq a) e true) (.ptr n 0) []
   |none=>none
 | .buildSlice t len ps=>match P.underlying t,GX fr (ps.toList.map (·.2)) with
   |some (.slice e),some l=>match II P e,LU P e with
     |some s,some z=>if len*s≤10000 then match KW (fun i=>some (i*s,s)) (((Array.range (len*s)).map (z.cells[· % z.cells.size]!)).toList.map .v) ((ps.toList.map (·.1)).zip l) with
      |some cs=>FZ h n (.cells cs e true) (.slc n 0 len len) []
      |none=>none
       else none
     |_,_=>none
   |_,_=>none
 | .makeMap _ none=>FZ h n (.map []) (.map n) []
 | .store t x v=>match opnd fr x,opnd fr v with
   |some (.ptr b k),some a=>match h.get b with
     |some (.cells l ty q)=>if II P t=some (Hq a).length∧k+(Hq a).length≤l.length∧(Hq a).all oneA then match T.put 20 h b (some (.cells (JS l k (Hq a)) ty q)) with
      |some h'=>some (.v undef,h',n,[b])
      |none=>none
       else none
     |_=>none
   |_,_=>none
 | .mapUpdate t m k x| .insert t m k x=>match opnd fr m,opnd fr k,opnd fr x with
   |some m,some k,some x=>updA P h n t m k x
   |_,_,_=>none
 | .call c=>match c.callee with
   | .builtin .append=>match GX fr c.args.toList with
     |some [s,x]=>appA P h n c.argTypes.toList s x
     |_=>none
   |_=>none
 |_=>none
def Wd(P:Program)(w0:World)(E:En)(n:Nat)(h:T AB)(r:World→Result Next)(w:World)(a:AV)(h':T AB)(n':Nat)(ws:List Nat):Prop:=
 ∃E' y w',(r w= .ok (.value y) w'∨(y=undef∧r w= .ok .skip w'))∧VR E' n' a y∧Le E n E' n'∧WR P w0 E' n' h' w'∧Kp n ws h h'
section
variable {P:Program} {w0:World} {E:En} {n:Nat} {h:T AB} {fr:T AV} {ρ:Operand→Value} {o:Oper} {w:World}
theorem VR.one{a:AV}{x:Value}(hv:VR E n a x)(e:oneA a=true):x.oneCell'=true:=by
 cases hv with
 |v x=>cases x <;>first|rfl|cases e
 |agg _=>cases e
 |tup _=>cases e
 |_=>rfl
theorem VRs.ones:∀{l:List AV} {xs:List Value},VRs E n l xs→l.all oneA=true→∀x∈xs,x.oneCell'=true
 |_,_,.nil,_,x,hx=>by cases hx
 |_,_,.cons hv t,e,x,hx=>by
   rw[List.all_cons,Bool.and_eq_true] at e;rcases List.mem_cons.1 hx with rfl|hx
   ·exact hv.one e.1
   ·exact VRs.ones t e.2 x hx
theorem VRs.over{l new:List AV}{xs ys:List Value}(k:Nat)(h1:VRs E n l xs)(h2:VRs E n new ys):VRs E n (JS l k new) (JS xs k ys):=by
 unfold JS;rw[h2.length];exact((h1.take k).append h2).append (h1.drop _)
theorem Qa{α:Type}{l new rest:List α}{k:Nat}(hk:k+new.length≤l.length):(l++rest).take k++new++(l++rest).drop (k+new.length)=JS l k new++rest:=by
 unfold JS;rw[List.take_append_of_le_length (by omega),List.drop_append_of_le_length (by omega)];simp
theorem WR.over(H:WR P w0 E n h w){b k:Nat}{l new:List AV}{ty:TypeId}{q:Bool}{ys:List Value}{h':T AB}(hb:h.get b=some (.cells l ty q))(hn:VRs E n new ys)(hone:new.all oneA=true)(hk:k+new.length≤l.length)
 (hp:T.put 20 h b (some (.cells (JS l k new) ty q))=some h'):∃w',(storeCells ⟨E.r b,k,none⟩ ys).run P w= .ok () w'∧WR P w0 E n h' w'∧Kp n [b] h h':=by
 obtain⟨hbn,xs,rest,hw,hv,hr⟩:=H.mem b _ hb;have hl:=hv.length;have hnl:=hn.length;have hrun:=run_storeCells_at (P:=P) (E.r b) k ty ys 0 (xs++rest).toArray w hw (by simp;omega) (hn.ones hone);refine⟨_,hrun, ?_⟩;simp only[Nat.add_zero];rw[Qa (by omega)];refine H.turn hb hp ⟨rfl,rfl,rfl⟩ (by simp) (setRow_heap w _ _ _ _ _ hw) (fun q hq=>setRow_other w _ _ _ hq) ⟨JS xs k ys,rest,rfl,hv.over k hn,hr⟩
theorem GU(H:WR P w0 E n h w){ab:AB}{ob:Obj}{a av:AV}{ws ws':List Nat}{h':T AB}{n':Nat}(e:FZ h n ab av ws=some (a,h',n',ws')){w':World}(hw:w'.heap=w.heap.push ob)(A:Alike w w'){d:Nat}(hbr:BR P E n (some ob) d ab):
 a=av∧ws'=ws∧n'=n+1∧WR P w0 (E.put n w.heap.size d) n' h' w'∧Kp n [] h h'∧Le E n (E.put n w.heap.size d) n':=by
 unfold FZ at e
 split at e
 ·rename_i h1 hp
  cases e;exact⟨rfl,rfl,rfl,(H.alloc hp hw A hbr).1,(H.alloc hp hw A hbr).2,E.le n w.heap.size d⟩
 ·cases e
theorem BR.row{l:List AV}{xs:List Value}(hv:VRs E n l xs)(ty:TypeId){x:Bool}:BR P E n (some (.cells xs.toArray ty (0,0))) 0 (.cells l ty x):=⟨xs,[],by simp,hv,by simp,fun _=>rfl⟩
theorem Mem.heap(hM:Mem P E n h w){w':World}(hw:w'.heap=w.heap):Mem P E n h w':=fun b ab hb=>by rw[hw];exact hM b ab hb
theorem WR.heap(H:WR P w0 E n h w){w':World}(hw:w'.heap=w.heap)(A:Alike w w'):WR P w0 E n h w':=
 ⟨H.mem.heap hw,H.new,H.inj,⟨A.os.trans H.bel.os,A.tape.trans H.bel.tape,A.output.trans H.bel.output,by rw[hw];exact H.bel.size,fun k hk=>by rw[hw];exact H.bel.block k hk⟩⟩
theorem Xz{s m:Nat}{x:AV}{y:Value}{new:List AV}(hx:VR E n x y)(hM:Mem P E n h w)(e:tailA h s x=some (m,new)):∃(ad:Addr) (c:Nat) (ys:List Value),y= .slice (some ad) m c∧VRs E n new ys∧ys.length=m*s∧∀(j:Nat) (u:Value),ys[j]? =some u→w.cell? (ad.add j)=some u:=by
 unfold tailA at e
 split at e
 ·rename_i b k q c
  split at e
  ·rename_i l ty x0 hb
   split at e
   ·rename_i hlen
    cases e;obtain⟨hbn,xs,rest,hw,hv,-⟩:=hM b _ hb;cases hx;have hv2:=(hv.drop k).take (m*s);refine⟨_,_,_,rfl,hv2,hv2.length.symm.trans hlen,fun j u hj=> ?_⟩;rw[addr_add];rw[List.getElem?_take] at hj
    split at hj
    ·rw[List.getElem?_drop] at hj
     have hlt:k+j < xs.length:=(List.getElem?_eq_some_iff.1 hj).1;simp only[World.cell?,hw]
     simp[List.getElem?_append_left hlt,hj]
    ·cases hj
   ·cases e
  ·cases e
 ·cases e
theorem Vl(z:Array Value)(k:Nat):(Builtin.zeroCells z k).toList.length=k*z.size:=by simp[Builtin.zeroCells]
theorem ZH(H:WR P w0 E n h w){ts:Array TypeId}{ty:TypeId}{s x a:AV}{sv xv:Value}{h':T AB}{n':Nat}{ws:List Nat}(hs:VR E n s sv)(hx:VR E n x xv)(e:appA P h n ts.toList s x=some (a,h',n',ws)):
 ∃E' y w',(Builtin.append_ ts ty #[sv,xv]).run P w= .ok y w'∧VR E' n' a y∧Le E n E' n'∧WR P w0 E' n' h' w'∧Kp n ws h h':=by
 unfold appA at e
 split at e
 ·rename_i t t' hts
  split at e
  ·cases e
  ·rename_i htt
   have htt:t=t':=Decidable.of_not_not htt;subst htt;have hts:ts= #[t,t]:=by
    cases ts;simpa using hts
   subst hts
   split at e
   ·rename_i el hu
    split at e
    ·rename_i i hi
     split at e
     ·rename_i z m new hz ht
      split at e
      ·rename_i hc
       obtain⟨hzs,hby,hm0,hm1,hone⟩:=hc;obtain⟨ad,c2,ys,rfl,hv,hyl,hys⟩:=Xz hx H.mem ht
       split at e
       ·cases hs
        have hrun:=run_append_nil (P:=P) w t ty el i z hu hi hz ad m c2 ys hyl hys hm0 (by omega) (by
         have:=Nat.mul_le_mul hm1 hby;omega)
        have hg:=grownCap_ge w m 0 el;obtain⟨rfl,rfl,rfl,hW,hK,hL⟩:=GU H e (w':=w.drew.alloc (.cells (ys.toArray++Builtin.zeroCells z.cells (grownCap w m 0 el-m)) el)) rfl ⟨rfl,rfl,rfl⟩ (d:=grownCap w m 0 el-m)
         ⟨ys,(Builtin.zeroCells z.cells (grownCap w m 0 el-m)).toList,by simp,hv,by rw[Vl,hzs];unfold Program.cellsOf;rw[hi];rfl,fun h=>by cases h⟩
        refine⟨_,_,_,hrun, ?_,hL,hW,hK⟩;have:=VR.slc (E:=E.put n w.heap.size (grownCap w m 0 el-m)) (n:=n+1) (b:=n) (o:=0) (l:=m) (c:=m) (Nat.lt_succ_self n);rw[show(E.put n w.heap.size (grownCap w m 0 el-m)).r n=w.heap.size from if_pos rfl,show(E.put n w.heap.size (grownCap w m 0 el-m)).d n=grownCap w m 0 el-m from if_pos rfl,show m+(grownCap w m 0 el-m)=grownCap w m 0 el by omega] at this;exact this
       ·rename_i b l c
        split at e
        ·rename_i ls ty' x0 hb
         split at e
         ·cases e
         ·rename_i hty
          have hte:ty'=el:=by
           apply Decidable.of_not_not;intro hne;exact hty (.inl hne)
          have hl1:l≤100000:=by
           apply Nat.le_of_not_lt;intro hlt;exact hty (.inr hlt)
          subst hte;obtain⟨hbn,xs,rest,hw,hxv,hrest,hx0⟩:=H.mem b _ hb;have hxl:=hxv.length;have hvl:=hv.length;cases hs;have hcel:P.cellsOf ty'=i.size:=by unfold Program.cellsOf;rw[hi];rfl
          rw[hcel] at hrest
          split at e
          ·rename_i hroom
           split at e
           ·rename_i hfit
            split at e
            ·rename_i h1 hp
             cases e;have hrun:=run_append_room (P:=P) w t ty ty' i hu hi (E.r b) l (c+E.d b) (xs++rest).toArray hw ad m c2 ys hyl hys (hv.ones hone) (by omega) (by simp;omega);refine⟨E,_,_,hrun,.slc hbn,Le.refl _ _, ?_⟩;simp only;rw[Qa (by omega)];exact H.turn hb hp ⟨rfl,rfl,rfl⟩ (by simp) (setRow_heap w _ _ _ _ _ hw) (fun q hq=>setRow_other w _ _ _ hq) ⟨JS xs (l*i.size) ys,rest,rfl,hxv.over _ hv,by rw[hcel];exact hrest,hx0⟩
            ·cases e
           ·cases e
          ·rename_i hroom
           split at e
           ·rename_i hfull
            obtain⟨hfull,hlc⟩:=hfull
            split at e
            ·rename_i h1 hp
             obtain⟨H1,hK1,hnone⟩:=H.drop hp;by_cases hr:l+m≤c+E.d b
             ·have hrun:=run_append_room (P:=P) w t ty ty' i hu hi (E.r b) l (c+E.d b) (xs++rest).toArray hw ad m c2 ys hyl hys (hv.ones hone) hr (by
               have:=Nat.mul_le_mul_right i.size hr;rw[Nat.add_mul,Nat.add_mul] at this
               simp;omega)
              unfold FZ at e
              split at e
              ·rename_i h2 hp2
               cases e;have hle:l*i.size≤xs.length:=by rw[←hxl,hfull];exact Nat.mul_le_mul_right _ hlc
               have hG:=H1.grow (w':=w.setRow (E.r b) ((xs++rest).toArray.toList.take (l*i.size)++ys++(xs++rest).toArray.toList.drop (l*i.size+ys.length)).toArray) (k:=E.r b) (d:=c+E.d b-(l+m)) hp2 ⟨rfl,rfl,rfl⟩ (by simp) (setRow_heap w _ _ _ _ _ hw) (fun q _ hq=>setRow_other w _ _ _ hq) (H.new _ _ hb)
                (fun q aq hq hqe => by
                 have hg:=T.get_put _ _ _ _ _ hp q;rw[hq] at hg
                 split at hg
                 ·cases hg
                 ·rename_i hqb
                  exact hqb (H.inj _ _ _ _ hg.symm hb hqe))
                ⟨xs.take (l * i.size) ++ ys, (xs ++ rest).drop (l * i.size + ys.length), by simp [List.take_append_of_le_length hle], (hxv.take _).append hv, by
                 rw[hcel,List.length_drop,List.length_append,hrest,←hxl,hfull,hyl,←Nat.add_mul,←Nat.add_mul,←Nat.sub_mul],fun h=>by cases h⟩
               refine⟨_,_,_,hrun, ?_,E.le n _ _,hG.1,hK1.trans hG.2 (Nat.le_refl _) (fun _ _ hx=>hx) (fun _ _ hx=>by cases hx)⟩;have:=VR.slc (E:=E.put n (E.r b) (c+E.d b-(l+m))) (n:=n+1) (b:=n) (o:=0) (l:=l+m) (c:=l+m) (Nat.lt_succ_self n);rw[show(E.put n (E.r b) (c+E.d b-(l+m))).r n=E.r b from if_pos rfl,show(E.put n (E.r b) (c+E.d b-(l+m))).d n=c+E.d b-(l+m) from if_pos rfl,show l+m+(c+E.d b-(l+m))=c+E.d b by omega] at this;exact this
              ·cases e
             ·have hle:l*i.size≤xs.length:=by rw[←hxl,hfull];exact Nat.mul_le_mul_right _ hlc
              have hxc:∀(j:Nat) (u:Value),(xs.take (l*i.size))[j]? =some u→w.cell? ((⟨E.r b,0,none⟩:Addr).add j)=some u:=by
               intro j u hj;rw[List.getElem?_take] at hj
               split at hj
               ·have hlt:j < xs.length:=(List.getElem?_eq_some_iff.1 hj).1
                rw[addr_add,Nat.zero_add];simp only[World.cell?,hw]
                simp[List.getElem?_append_left hlt,hj]
               ·cases hj
              have hrun:=run_append_grow (P:=P) w t ty ty' i z hu hi hz ⟨E.r b,0,none⟩ l (c+E.d b) (xs.take (l*i.size)) (by rw[List.length_take];omega) hxc ad m c2 ys hyl hys (by omega) (by omega) (growslice_fits (by omega) (by
               have:=Nat.mul_le_mul (show l+m≤200000 by omega) hby;omega))
              have hg:=grownCap_ge w (l+m) (c+E.d b) ty';generalize grownCap w (l+m) (c+E.d b) ty'=gc at hrun hg;obtain⟨rfl,rfl,rfl,hW,hK,hL⟩:=GU H1 e (w':=w.drew.alloc (.cells ((xs.take (l*i.size)).toArray++ys.toArray++Builtin.zeroCells z.cells (gc-(l+m))) ty')) rfl ⟨rfl,rfl,rfl⟩ (d:=gc-(l+m))
               ⟨xs.take (l*i.size)++ys,(Builtin.zeroCells z.cells (gc-(l+m))).toList,by simp,(hxv.take _).append hv,by rw[Vl,hzs,hcel],fun h=>by cases h⟩
              refine⟨_,_,_,hrun, ?_,hL,hW,hK1.trans hK (Nat.le_refl _) (fun _ _ hx=>hx) (fun _ _ hx=>by cases hx)⟩;have:=VR.slc (E:=E.put n w.heap.size (gc-(l+m))) (n:=n+1) (b:=n) (o:=0) (l:=l+m) (c:=l+m) (Nat.lt_succ_self n);rw[show(E.put n w.heap.size (gc-(l+m))).r n=w.heap.size from if_pos rfl,show(E.put n w.heap.size (gc-(l+m))).d n=gc-(l+m) from if_pos rfl,show l+m+(gc-(l+m))=gc by omega] at this;exact this
            ·cases e
           ·cases e
        ·cases e
       ·cases e
      ·cases e
     ·cases e
    ·cases e
   ·cases e
 ·cases e
end
section
variable {P:Program} {w0:World} {E:En} {n:Nat} {h:T AB} {fr:T AV} {ρ:Operand→Value} {o:Oper} {w:World}
theorem MR.push{k:Value}{a:AV}{x:Value}(hv:VR E n a x):∀{j:Nat} {es:List (Value×AV)} {fs:List MapEntry},MR E n j es fs→MR E n j (es++[(k,a)]) (fs++[⟨k,x,j+es.length⟩])
 |_,_,_,.nil=> .cons hv .nil
 |j,_::es,_,.cons h t=>by
   have:=MR.push (k:=k) hv t;rw[show j+1+es.length=j+(es.length+1) by omega] at this;exact .cons h this
theorem MR.set{k:Value}{a:AV}{x:Value}(hv:VR E n a x):∀{j i:Nat} {es:List (Value×AV)} {fs:List MapEntry},MR E n j es fs→MR E n j (es.set i (k,a)) (fs.modify i fun e=>{e with key:=k,val:=x})
 |_,_,_,_,.nil=>by simpa using MR.nil
 |_,0,_,_,.cons h t=> .cons hv t
 |_,i+1,_,_,.cons h t=> .cons h (MR.set hv t)
theorem MR.key:∀{j i:Nat} {es:List (Value×AV)} {fs:List MapEntry} {e:Value×AV},MR E n j es fs→es[i]? =some e→∃f,fs[i]? =some f∧f.key=e.1
 |_,0,_,_,e,.cons h t,hi=>by cases hi;exact⟨_,rfl,rfl⟩
 |_,i+1,_,_,e,.cons h t,hi=>MR.key (i:=i) t (by simpa using hi)
theorem Vq(H:WR P w0 E n h w){t:TypeId}{m k x a:AV}{mv kv xv:Value}{h':T AB}{n':Nat}{ws:List Nat}(hm:VR E n m mv)(hk:VR E n k kv)(hx:VR E n x xv)(e:updA P h n t m k x=some (a,h',n',ws)):
 ∃w',(Instr.mapUpdate t mv kv xv).run P w= .ok () w'∧a= .v undef∧n'=n∧WR P w0 E n h' w'∧Kp n ws h h':=by
 unfold updA at e
 split at e
 ·rename_i b kk kt et hkk hu
  split at e
  ·rename_i es hb
   cases hm;have hk2:=UC hk hkk;subst hk2;obtain⟨hbn,fs,hw,hf⟩:=H.mem b _ hb;have hfl:=hf.length;have hlt:=(Array.getElem?_eq_some_iff.1 hw).1;have hset:∀(ob:Obj),(setObj (E.r b) ob).run P w= .ok () {w with heap:=w.heap.setIfInBounds (E.r b) ob}:=by
    intro ob;unfold setObj;simp only[Sem.run,hw]
   have hT:∀(es':List (Value×AV)) (fs':List MapEntry) (h':T AB),MR E n 0 es' fs'→T.put 20 h b (some (.map es'))=some h'→WR P w0 E n h' {w with heap:=w.heap.setIfInBounds (E.r b) (.map fs'.toArray es'.length)}∧Kp n [b] h h':=by
    intro es' fs' h' hm' hp;refine H.turn (o:= .map fs'.toArray es'.length) hb hp ⟨rfl,rfl,rfl⟩ (by simp) ?_ (fun q hq=> ?_) ⟨fs',rfl,hm'⟩
    ·show(w.heap.setIfInBounds (E.r b) _)[E.r b]? =_
     rw[Array.getElem?_setIfInBounds_self_of_lt hlt]
    ·show(w.heap.setIfInBounds (E.r b) _)[q]? =_
     rw[Array.getElem?_setIfInBounds_ne (Ne.symm hq)]
   split at e
   ·rename_i hc hfi
    split at e
    ·rename_i h1 hp
     cases e;obtain⟨r',hr1,hr2⟩:=KU (w:=w) hf hfi;have hr2:r'=none:=hr2;subst hr2;obtain⟨hW,hK⟩:=hT _ _ _ (hf.push hx) hp;refine⟨_, ?_,rfl,rfl,hW,hK⟩;unfold Instr.mapUpdate;simp only[Sem.run_bind,Bz hu,Result.andThen_ok,getObj,Sem.run,hw,Sem.run_pure,C8 hc,hr1,hset];simp
    ·cases e
   ·rename_i i q hc hfi
    cases he1:es[i]? with
    |none=>rw[he1] at e;simp at e
    |some e1=>
      rw[he1] at e;dsimp only at e
      split at e
      ·rename_i hsame
       split at e
       ·rename_i h1 hp
        cases e;obtain⟨r',hr1,y,rfl,-⟩:=KU (w:=w) hf hfi;obtain⟨hW,hK⟩:=hT _ _ _ (hf.set (i:=i) hx) hp;refine⟨_, ?_,rfl,rfl,hW,hK⟩;obtain⟨f1,hf1,hfk⟩:=hf.key he1;have hks:(Instr.keyThatStays (((fs[i]?).map (·.key)).getD kv) kv).run P w= .ok kv w:=by
         unfold Instr.keyThatStays;rw[hf1];simp only[Option.map_some,Option.getD_some,hfk];rw[if_pos hsame];rfl
        unfold Instr.mapUpdate;simp only[Sem.run_bind,Bz hu,Result.andThen_ok,getObj,Sem.run,hw,Sem.run_pure,C8 hc,hr1,List.getElem?_toArray,hks,hset];simp
       ·cases e
      ·cases e
   ·cases e
  ·cases e
 ·cases e
theorem MJ(t:TypeId)(cs:Array Value)(w:World):(newRow t cs).run P w= .ok ⟨w.heap.size,0,none⟩ {w with heap:=w.heap.push (.cells cs t)}:=rfl
theorem VR.last(E:En)(n k d o:Nat):VR (E.put n k d) (n+1) (.ptr n o) (.pointer (some ⟨k,o,none⟩)):=by
 have:=VR.ptr (E:=E.put n k d) (n:=n+1) (b:=n) (o:=o) (Nat.lt_succ_self n)
 rwa[show(E.put n k d).r n=k from if_pos rfl] at this
theorem Jb(H:WR P w0 E n h w){l:List AV}{xs:List Value}{t:TypeId}{a:AV}{h':T AB}{n':Nat}{ws:List Nat}(hv:VRs E n l xs){b:Bool}{m:Nat}(e:FZ h n (.cells l t true) (if b then .ptr n 0 else .slc n 0 m m) []=some (a,h',n',ws)){s:Sem Value}
 (hs:s.run P w= .ok (if b then .pointer (some ⟨w.heap.size,0,none⟩) else .slice (some ⟨w.heap.size,0,none⟩) m m) {w with heap:=w.heap.push (.cells xs.toArray t)}) (hx:execOp ρ o=(do pure (.value (←s)))):Wd P w0 E n h (fun w=>(execOp ρ o).run P w) w a h' n' ws:=by
 obtain⟨rfl,rfl,rfl,hW,hK,hL⟩:=GU H e (w':={w with heap:=w.heap.push (.cells xs.toArray t)}) (ob:= .cells xs.toArray t) rfl ⟨rfl,rfl,rfl⟩ (d:=0) (BR.row hv t);refine⟨_,if b then .pointer (some ⟨w.heap.size,0,none⟩) else .slice (some ⟨w.heap.size,0,none⟩) m m,_,.inl (by rw[hx];simp only[Sem.run_bind,hs,Result.andThen_ok,Sem.run_pure]), ?_,hL,hW,hK⟩;cases b
 ·have:=VR.slc (E:=E.put n w.heap.size 0) (n:=n+1) (b:=n) (o:=0) (l:=m) (c:=m) (Nat.lt_succ_self n)
  rw[show(E.put n w.heap.size 0).r n=w.heap.size from if_pos rfl,show(E.put n w.heap.size 0).d n=0 from if_pos rfl] at this;exact this
 ·exact VR.last E n _ 0 0
theorem ZG(H:WR P w0 E n h w)(hO:Ops E n fr ρ){a:AV}{h':T AB}{n':Nat}{ws:List Nat}(e:evW P h n fr o=some (a,h',n',ws)):Wd P w0 E n h (fun w=>(execOp ρ o).run P w) w a h' n' ws:=by
 have hst:∀{s:Sem Unit} {w':World},execOp ρ o=(do s;pure .skip)→s.run P w= .ok () w'→a= .v undef→n'=n→WR P w0 E n h' w'→Kp n ws h h'→Wd P w0 E n h (fun w=>(execOp ρ o).run P w) w a h' n' ws:=by
  rintro s w' hx hs rfl rfl hW hK;exact⟨E,undef,w',.inr ⟨rfl,by rw[hx];simp only[Sem.run_bind,hs,Result.andThen_ok,Sem.run_pure]⟩,.v _,Le.refl _ _,hW,hK⟩
 unfold evW at e
 split at e
 ·rename_i t hop
  split at e
  ·rename_i z hz
   refine Jb (b:=true) (m:=0) H (VRs.vs _) e (s:=Instr.alloc t true (.tuple #[])) ?_ (by unfold execOp;rw[hop]);unfold Instr.alloc;simp only[Sem.run_bind,Ir hz,Result.andThen_ok,newVar,MJ,Sem.run_pure];simp
  ·cases e
 ·rename_i t x hop
  split at e
  ·rename_i av hx
   refine Jb (b:=true) (m:=0) H (hO _ _ hx).cells e (s:=Instr.box t (ρ x)) ?_ (by unfold execOp;rw[hop]);unfold Instr.box;simp only[Sem.run_bind,Result.andThen_ok,newVar,MJ,Sem.run_pure];simp
  ·cases e
 ·rename_i t len ps hop
  split at e
  ·rename_i el l hu hl
   split at e
   ·rename_i s z hs hz
    split at e
    ·rename_i hc
     split at e
     ·rename_i cs hf
      obtain⟨rs,hr,hrun⟩:=NW (E:=E) (n:=n) (hO.all hl) (VRs.vs _) hf;refine Jb (b:=false) (m:=len) H hr e (s:=Instr.buildSlice t len (ps.map fun(i,x)=>(i,ρ x))) ?_ (by unfold execOp;rw[hop]);have h2:(ps.map fun(i,x)=>(i,ρ x)).toList=(ps.toList.map (·.1)).zip ((ps.toList.map (·.2)).map ρ):=by
       rw[Array.toList_map];generalize ps.toList=q
       induction q with
       |nil=>rfl
       |cons a q ih=>
         obtain⟨i,x⟩:=a;simpa using ih
      have h0:¬len*s>2 ^ 24:=by omega
      have hrg:len*s=0→(Array.range (len*s)).map ((#[]:Array Value)[· % (#[]:Array Value).size]!)=(Array.range (len*s)).map (z.cells[· % z.cells.size]!):=fun h1=>by simp[h1]
      rw[Array.toArray_toList] at hrun;unfold Instr.buildSlice;simp only[Sem.run_bind,Bz hu,Cu hs,Result.andThen_ok,h2];rw[if_neg h0];by_cases h1:len*s=0
      ·rw[if_pos h1]
       simp only[Sem.run_bind,Sem.run_pure,Result.andThen_ok,hrg h1,hrun,MJ];rfl
      ·rw[if_neg h1]
       simp only[Sem.run_bind,Sem.run_pure,Result.andThen_ok,Ir hz,hrun,MJ];rfl
     ·cases e
    ·cases e
   ·cases e
  ·cases e
 ·rename_i t hop
  obtain⟨rfl,rfl,rfl,hW,hK,hL⟩:=GU H e (w':={w with heap:=w.heap.push (.map #[] 0)}) (ob:= .map #[] 0) rfl ⟨rfl,rfl,rfl⟩ (d:=0) ⟨[],rfl,.nil⟩;refine⟨_,_,_,.inl (by unfold execOp;rw[hop];rfl), ?_,hL,hW,hK⟩;have:=VR.map (E:=E.put n w.heap.size 0) (n:=n+1) (b:=n) (Nat.lt_succ_self n);rw[show(E.put n w.heap.size 0).r n=w.heap.size from if_pos rfl] at this;exact this
 ·rename_i t x v hop
  split at e
  ·rename_i b k av hx hv
   split at e
   ·rename_i l ty q0 hb
    split at e
    ·rename_i hc
     split at e
     ·rename_i h1 hp
      cases e;have hvc:=(hO _ _ hv).cells;obtain⟨w',hr,hW,hK⟩:=H.over hb hvc hc.2.2 hc.2.1 hp;have h1:=hO _ _ hx;generalize hrx:ρ x=z at h1;cases h1;refine hst (s:=Instr.storeAt t (.pointer (some ⟨E.r b,k,none⟩)) (ρ v)) (by unfold execOp;rw[hop];simp only[hrx]) ?_ rfl rfl hW hK;unfold Instr.storeAt Instr.sureAddr storeVar;simp only[Sem.run_bind,Sem.run_pure,Result.andThen_ok,Cu hc.1];rw[if_neg (by simp[hvc.length])];exact hr
     ·cases e
    ·cases e
   ·cases e
  ·cases e
 ·rename_i t m k x hop
  split at e
  ·rename_i am ak ax hm hk hx
   obtain⟨w',hr,h1,h2,hW,hK⟩:=Vq H (hO _ _ hm) (hO _ _ hk) (hO _ _ hx) e;exact hst (by unfold execOp;rw[hop]) hr h1 h2 hW hK
  ·cases e
 ·rename_i t m k x hop
  split at e
  ·rename_i am ak ax hm hk hx
   obtain⟨w',hr,h1,h2,hW,hK⟩:=Vq H (hO _ _ hm) (hO _ _ hk) (hO _ _ hx) e;exact hst (by unfold execOp;rw[hop]) hr h1 h2 hW hK
  ·cases e
 ·rename_i c hop
  split at e
  ·rename_i hcal
   split at e
   ·rename_i s x hl
    have hv:=hO.all hl;generalize hys:c.args.toList.map ρ=ys at hv;cases hv with|cons h1 h2=>cases h2 with|cons h2 h3=>
    cases h3
    rename_i sv xv
    obtain⟨E',y,w',hr,hy,hL,hW,hK⟩:=ZH (ts:=c.argTypes) (ty:=o.type) H h1 h2 e;refine⟨E',y,w',.inl ?_,hy,hL,hW,hK⟩;unfold execOp;rw[hop];unfold resolve;simp only[hcal,Sem.run_bind,Sem.run_pure,Result.andThen_ok,invoke];rw[amap,hys];unfold builtin;simp only[Sem.run_bind];rw[show[sv,xv].toArray= #[sv,xv] from rfl,hr];rfl
   ·cases e
  ·cases e
 ·cases e
end
end Go.Proofs.YtijhlanclfajiaaGreatDoor.Ev
