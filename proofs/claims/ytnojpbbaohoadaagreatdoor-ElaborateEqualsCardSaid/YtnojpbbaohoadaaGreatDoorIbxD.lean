/- The layer of abstract runs, part 4. -/
import Derived.Test.YtnojpbbaohoadaaGreatDoorIbxC
import Derived.Laws.StructEq
import Derived.ChangeKeysEq
set_option linter.unusedSimpArgs false
set_option linter.unusedVariables false
set_option linter.all false
set_option maxHeartbeats 4000000
namespace Go.AI
def TKok (P:Program) (t:Nat):TK→Prop
 |.sc=>∃d,P.underlying t=some d∧(∀x,d ≠ .struct x)∧∀x y,d ≠ .array x y
 |.str=>P.underlying t=some .string
 |.bool=>P.underlying t=some .bool
 |.int k=>P.underlying t=some (.int k)
 |.slice e=>P.underlying t=some (.slice e)
 |.ptr e=>P.underlying t=some (.pointer e)
 |.map k e=>P.underlying t=some (.map k e)
 |.arr n e=>P.underlying t=some (.array n e)
 |.struct fs=>∃fields:Array Field,P.underlying t=some (.struct fields) ∧
   (∀w,(fields.mapM fun f=>do pure (f.offset,←Go.sizeOf f.type):Sem (Array (Nat×Nat))).run P w=.ok (fs.map fun f=>(f.1,f.2.1)).toArray w)∧∀(j:Nat) (f:Nat×Nat×Bool),fs[j]? = some f →
   ∃(fl:Field) (inf:TypeInfo),fields[j]? = some fl∧fl.offset=f.1∧P.info? fl.type=some inf∧inf.size=f.2.1∧f.2.1≠0 ∧
    ∀w,(isAgg fl.type).run P w=.ok f.2.2 w
def zc4 (P:Program):List Field→Nat→List TK→Prop
 |[],_,[]=>True
 | f :: fs, off, .int k :: r => f.name ≠ "_" ∧ f.offset = off ∧ P.underlying f.type = some (.int k) ∧ zc4 P fs (off + 1) r
 | f :: fs, off, .str :: r => f.name ≠ "_" ∧ f.offset = off ∧ P.underlying f.type = some .string ∧ zc4 P fs (off + 1) r
 | f :: fs, off, .bool :: r => f.name ≠ "_" ∧ f.offset = off ∧ P.underlying f.type = some .bool ∧ zc4 P fs (off + 1) r
 |_,_,_=>False
def CmpS (P:Program) (t:Nat) (cmp:List TK):Prop:=
 P.underlying t=some (.struct (P.fieldsOf t))∧P.stoodInHeld t=false∧P.eqGuardType P.depth t=false∧zc4 P (P.fieldsOf t).toList 0 cmp
def CmpA (P:Program) (t:Nat) (cmp:List TK):Prop:=
 ∃(e:Nat) (k:IntKind),cmp=[.int k,.int k]∧P.underlying t=some (.array 2 e)∧P.underlying e=some (.int k)∧(∃inf,P.info? e=some inf∧inf.size=1)∧P.eqGuardType P.depth t=false
def zkM (P:Program) (t:Nat) (cmp:List TK):Prop:=CmpS P t cmp∨CmpA P t cmp
structure TIok (P:Program) (t:Nat) (i:TI):Prop where
 info:∃inf,P.info? t=some inf∧inf.size=i.size∧inf.bytes=i.bytes∧∃z,inf.zero=some z∧z.cells.toList=i.zero∧(i.k.agg=false→i.zero=[z])
 kind:TKok P t i.k
 one:∀x∈i.zero,x.oneCell'=true
 len:i.zero.length=i.size
 pos:i.size≠0
 cmp:i.cmp=[]∨zkM P t i.cmp
def TOk (P:Program) (T:TT):Prop:=∀t i,look T t=some i→TIok P t i
section
variable {P:Program} {T:TT} {E:Env} {K:Kn} {ρ:Nat→Nat→Loc} {S:List Heap} {w:World}
theorem zjK {t:Nat} {i:TI} (h:TIok P t i) (w:World):(isAgg t).run P w=.ok i.k.agg w:=by
 have hk:=h.kind
 cases hi:i.k<;>rw[hi] at hk<;>simp only[TKok] at hk
 case sc=>
  obtain⟨d,hd,h1,h2⟩:=hk;simp only[isAgg,Sem.run_bind,run_underlying hd,Result.andThen_ok,TK.agg]
  cases d<;>first|rfl|exact absurd rfl (h1 _)|exact absurd rfl (h2 _ _)
 case struct fs=>
  obtain⟨fl,hd,_⟩:=hk;simp[isAgg,Sem.run_bind,run_underlying hd,Result.andThen_ok,TK.agg]
 all_goals simp[isAgg,Sem.run_bind,run_underlying hk,Result.andThen_ok,TK.agg]
theorem run_sizeOf {t:Nat} {i:TI} (h:TIok P t i) (w:World):(Go.sizeOf t).run P w=.ok i.size w:=by
 obtain⟨inf,h1,h2,_⟩:=h.info;simp[Go.sizeOf,typeInfo,h1,h2]
def SndV (P:Program) (dst:Nat) (K:Kn) (ρ:Nat→Nat→Loc) (S:List Heap) (w:World) (m:Sem Value):Ask→Prop
 |.val d=>∃v,m.run P w=.ok v w∧RepD K ρ (shape S) v d
 |.new adds d=>(∀nm,look adds nm≠none→zab S 0 nm=none)→∃v K' ρ' w',m.run P w=.ok v w'∧Grow K ρ S w adds K' ρ' w'∧RepD K' ρ' (shape (addS S adds)) v d
 |.need p a=>p→SndV P dst K ρ S w m a
 |.elem xs i k=>∀d,xs[i]? = some d→SndV P dst K ρ S w m (k d)
 |.obj dep nm k=>∀ob,zab S dep nm=some ob→SndV P dst K ρ S w m (k ob)
 |.anyb p=>∃b,m.run P w=.ok (.bool b) w∧p b
 |.alt a b=>SndV P dst K ρ S w m a∧SndV P dst K ρ S w m b
 |.call _ _=>False
 |_=>True
variable {dst:Nat} {m:Sem Value}
theorem zdZ {d:D} {k:D→Ask} (h:SndV P dst K ρ S w m (k d)):SndV P dst K ρ S w m (force d k):=by rw[force_eq];exact h
theorem zdo {d:List D} {k:List D→Ask} (h:SndV P dst K ρ S w m (k d)):SndV P dst K ρ S w m (zcs d k):=by rw[zbN];exact h
theorem zaP {sh:Nat→Nat→Option Sh} {v x:Value} (h:RepD K ρ sh v (.i (.v x))):v=x:=by
 cases h with
 |i r=>cases r with
  |v e=>rfl
theorem zbg {sh:Nat→Nat→Option Sh} {x:Value} (h:x.oneCell'=true):RepD K ρ sh x (.i (.v x)):=.i (.v h)
theorem zuY {b o es i:Nat} {cs:List Value} {xs:List (List I)} (hr:RepL K cs xs.flatten) (he:∀d∈xs,d.length=es) (hk:∀j c,cs[j]? = some c→K b (o+j)=some c)
  {d:List I} (hd:xs[i]? = some d):∃c,RepL K c d∧c.length=es∧∀j x,c[j]? = some x→K b (o+i*es+j)=some x:=by
 have hdl:d.length=es:=he d (List.mem_of_getElem? hd);have hfl:∀(xs:List (List I)) (i:Nat),(∀d∈xs,d.length=es)→xs[i]? = some d→(xs.flatten.drop (i*es)).take es=d:=by
  intro xs
  induction xs with
  |nil=>intro i _ h;simp at h
  |cons x xs ih=>
   intro i hl h;have hx:x.length=es:=hl x (by simp)
   cases i with
   |zero=>
    simp at h;subst h;simp[←hx]
   |succ i=>
    simp at h;have:=ih i (fun d hd=>hl d (by simp[hd])) h;rw[List.flatten_cons,show (i+1)*es=x.length+i*es by rw[Nat.add_mul,hx];omega,List.drop_length_add_append];exact this
 refine⟨(cs.drop (i*es)).take es,?_,?_,?_⟩
 ·have:=(hr.drop (i*es)).take es;rwa [hfl xs i he hd] at this
 ·have h1:=((hr.drop (i*es)).take es).length;rw[h1,hfl xs i he hd,hdl]
 ·intro j x hx;rw[List.getElem?_take] at hx
  split at hx
  ·rw[List.getElem?_drop] at hx;have:=hk _ _ hx;rwa [show o+i*es+j=o+(i*es+j) by omega]
  ·cases hx
theorem zew {t:Nat} {i:TI} (hi:TIok P t i) (hw:HInv E K ρ S w) {b o off:Nat} {cs:List Value} {ds:List D} (hr:RepDL K ρ (shape S) cs ds)
  (hc:∀j c,cs[j]? = some c→w.cell? ⟨b,o+j,none⟩=some c) :
  SndV P dst K ρ S w (loadVar t ⟨b,o+off,none⟩) (zgS i off ds .val):=by
 unfold zgS;have hlen:=hr.length
 cases hag:i.k.agg with
 |true=>
  simp only[cond_true]
  cases hb:Nat.ble (off+i.size) ds.length with
  |false=>trivial
  |true=>
   have hle:off+i.size≤ds.length:=Nat.le_of_ble_eq_true hb;refine zdo ?_;have hcs:((cs.drop off).take i.size).length=i.size:=by simp;omega
   refine⟨.agg ((cs.drop off).take i.size).toArray,?_,.agg ((hr.drop off).take i.size)⟩;have hl:=run_loadCells_list (P:=P) w ⟨b,o+off,none⟩ ((cs.drop off).take i.size) (by
    intro j v hv;rw[List.getElem?_take] at hv
    split at hv
    ·rw[List.getElem?_drop] at hv;have:=hc _ _ hv;have e:(⟨b,o+off,none⟩:Addr).add j=⟨b,o+(off+j),none⟩:=by simp only[Addr.add];split<;>simp_all;omega
     rw[e];exact this
    ·cases hv)
   rw[hcs] at hl;simp[loadVar,zjK hi,hag,run_sizeOf hi,hl]
 |false=>
  simp only[cond_false]
  cases hd:ds.drop off with
  |nil=>trivial
  |cons d r=>
   refine zdZ ?_;have hd0:ds[off]? = some d:=by
    have:=congrArg (fun l=>l[0]?) hd;simpa using this
   obtain⟨y,hy,hrep⟩:=hr.get hd0;refine⟨y,?_,hrep⟩;simp[loadVar,zjK hi,hag,hc _ _ hy]
theorem hobj {dep nm:Nat} {k:Ob→Ask} {s:St} (hS:s.S=S) (h:∀ob,zab S dep nm=some ob→SndV P dst K ρ S w m (k ob)):SndV P dst K ρ S w m (zcv s dep nm k):=by
 unfold zcv
 cases dep with
 |zero=>
  simp only[hS]
  cases ho:zab S 0 nm with
  |none=>trivial
  |some ob=>exact h ob ho
 |succ d=>exact h
mutual
theorem RepD.shift {sh:Nat→Nat→Option Sh} (k:Nat):∀{v:Value} {d:D},RepD K (fun d n=>ρ (k+d) n) (fun d n=>sh (k+d) n) v d→RepD K ρ sh v (d.shift k)
 |_,_,.dead x=>.dead x
 |_,_,.i r=>.i r
 |_,_,.agg r=>.agg (RepDL.shift k r)
 |_,_,.tup r=>.tup (RepDL.shift k r)
 |_,_,.box (dep:=dep) e=>by
  rw[D.shift,Nat.add_comm dep k];exact RepD.box e
 |_,_,.arr (dep:=dep) e l=>by
  rw[D.shift,Nat.add_comm dep k];exact RepD.arr e l
 |_,_,.osl (dep:=dep) e=>by
  rw[D.shift,Nat.add_comm dep k];exact RepD.osl e
 |_,_,.omp (dep:=dep) e=>by
  rw[D.shift,Nat.add_comm dep k];exact RepD.omp e
 |_,_,.xsl r e h l=>.xsl r e h l
 |_,_,.psl _ _=>.dead _
 |_,_,.xnil=>.xnil
 |_,_,.bt=>.bt
 |_,_,.bf=>.bf
 |_,_,.fn r s=>.fn (RepDL.shift k r) (RepDL.shift k s)
theorem RepDL.shift {sh:Nat→Nat→Option Sh} (k:Nat):∀{v:List Value} {d:List D},RepDL K (fun d n=>ρ (k+d) n) (fun d n=>sh (k+d) n) v d→RepDL K ρ sh v (D.shifts k d)
 |_,_,.nil=>.nil
 |_,_,.cons r rs=>.cons (RepD.shift k r) (RepDL.shift k rs)
end
end
end Go.AI
