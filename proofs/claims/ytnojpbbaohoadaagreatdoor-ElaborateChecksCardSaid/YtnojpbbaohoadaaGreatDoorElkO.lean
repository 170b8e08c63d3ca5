/- The layer of abstract runs, part 15. -/
import Derived.Test.YtnojpbbaohoadaaGreatDoorElkN
set_option linter.unusedSimpArgs false
set_option linter.unusedVariables false
set_option linter.all false
set_option maxHeartbeats 4000000
namespace Go.AI
def Exec (P:Program) (f:FuncId) (vs:Array Value) (w:World) (R:Value→World→Prop):Prop:=
 ((callFunc f vs).run P w=.ok (.enter f vs) w∧Calls P f vs w fun e w'=>∃v,e=.returned v∧R v w')∨∃v w',(callFunc f vs).run P w=.ok (.value v) w'∧R v w'
def zao (P:Program) (f:FuncId) (args:List D) (O:List Heap) (res:D) (Hr:Heap) (O':List Heap):Prop:=
 ∀E K ρ w vs,HInv E K ρ O w→RepDL K ρ (shape O) vs args →
  Exec P f vs.toArray w fun v w'=>∃K' ρ',HInv (.of K ρ w) K' ρ' (Hr::O') w'∧RepD K' ρ' (shape (Hr::O')) v res
structure Cx where
 P:Program
 T:TT
 E:Env
 f:FuncId
 fn:Func
 post:Value→World→Prop
 stop:List Nat:=[]
def Rch (c:Cx) (todo:List Item) (s:St):Prop:=
 ∀(K:Kn) (ρ:Nat→Nat→Loc) (a:Act) (w:World) (b:Frame) (cs:List Frame),Inv c.E K ρ s a w→b.fn=c.f→b.kind=.normal →
  ∃(v:Value) (w':World) (fr:Frame),c.post v w'∧Steps c.P (lone (b.at a todo) cs w) (lone fr cs w')∧fr.fn=c.f∧fr.leaving c.P w' (.returned v)
section
variable {c:Cx} {s:St} {k:List Item}
theorem zb6 {todo todo':List Item} {s':St} (hs:∀K ρ a w (b:Frame) cs,Inv c.E K ρ s a w→step c.P (lone (b.at a todo) cs w)=.next (lone (b.at a todo') cs w)∧Inv c.E K ρ s' a w) (h:Rch c todo' s'):Rch c todo s:=by
 intro K ρ a w b cs hi hb hk;obtain⟨h1,h2⟩:=hs K ρ a w b cs hi;obtain⟨v,w',fr,hp,hst,h3⟩:=h K ρ a w b cs h2 hb hk;exact⟨v,w',fr,hp,.head h1 hst,h3⟩
theorem zw8 {x y:Code} (h:Rch c (.code x::.code y::k) s):Rch c (.code (.seq x y)::k) s:=zb6 (fun _ _ _ _ _ _ hi=>⟨step_seq,hi⟩) h
theorem zuL (h:Rch c k s):Rch c (.code .skip::k) s:=zb6 (fun _ _ _ _ _ _ hi=>⟨step_skip,hi⟩) h
theorem zrI {id:Nat} {x:Code} (h:Rch c (.code x::.inBlock id::k) s):Rch c (.code (.block id x)::k) s:=zb6 (fun _ _ _ _ _ _ hi=>⟨step_block,hi⟩) h
theorem zlb {id:Nat} (h:Rch c k s):Rch c (.inBlock id::k) s:=zb6 (fun _ _ _ _ _ _ hi=>⟨step_inBlock,hi⟩) h
theorem zuM {x:Code} (h:Rch c (.code x::.inLoop x::k) s):Rch c (.code (.loop x)::k) s:=zb6 (fun _ _ _ _ _ _ hi=>⟨step_loop,hi⟩) h
theorem zpH {x:Code} (h:Rch c (.code x::.inLoop x::k) s):Rch c (.inLoop x::k) s:=zb6 (fun _ _ _ _ _ _ hi=>⟨step_inLoop,hi⟩) h
theorem zuO {id:Nat} {k':List Item} (he:exitTo id k=some k') (h:Rch c k' s):Rch c (.code (.exit id)::k) s:=zb6 (fun _ _ _ _ _ _ hi=>⟨step_exit he,hi⟩) h
theorem zpI {x:Operand} {a b:Code} (hx:evD s x=.bt) (h:Rch c (.code a::k) s):Rch c (.code (.cond x a b)::k) s:=
 zb6 (fun K ρ ac w fr cs hi=>⟨by
  have hr:=hi.ev x;rw[hx] at hr;have hv:ac.eval x=.bool true:=by generalize ac.eval x=v at hr;cases hr;rfl
  exact step_cond (t:=true) hv,hi⟩) h
theorem zpJ {x:Operand} {a b:Code} (hx:evD s x=.bf) (h:Rch c (.code b::k) s):Rch c (.code (.cond x a b)::k) s:=
 zb6 (fun K ρ ac w fr cs hi=>⟨by
  have hr:=hi.ev x;rw[hx] at hr;have hv:ac.eval x=.bool false:=by generalize ac.eval x=v at hr;cases hr;rfl
  exact step_cond (t:=false) hv,hi⟩) h
theorem zuP {x:Operand} {a b:Code} {t:Bool} (hx:evD s x=.i (.v (.bool t))) (ht:t=true→Rch c (.code a::k) s) (hf:t=false→Rch c (.code b::k) s):Rch c (.code (.cond x a b)::k) s:=by
 cases t with
 |true=>
  exact zb6 (fun K ρ ac w fr cs hi=>⟨by
   have hr:=hi.ev x;rw[hx] at hr;exact step_cond (t:=true) (zaT hr),hi⟩) (ht rfl)
 |false=>
  exact zb6 (fun K ρ ac w fr cs hi=>⟨by
   have hr:=hi.ev x;rw[hx] at hr;exact step_cond (t:=false) (zaT hr),hi⟩) (hf rfl)
def Ends (c:Cx) (k:List Item) (a:Act) (w:World):Prop:=∀(b:Frame) (cs:List Frame),b.fn=c.f→b.kind=.normal →
  ∃(v:Value) (w':World) (fr:Frame),c.post v w'∧Steps c.P (lone (b.at a k) cs w) (lone fr cs w')∧fr.fn=c.f∧fr.leaving c.P w' (.returned v)
def RG (c:Cx) (ops:Array Oper) (l:List Nat) (s:St) (k:List Item):Prop:=
 ∀K ρ a w,Inv c.E K ρ s a w→wpOps c.P ops (fun e a' w'=>e=.normal∧Ends c k a' w') l a w
theorem zhU {id:Nat} {ops:Array Oper} (h:RG c ops (List.range ops.size) s k):Rch c (.code (.region id ops false)::k) s:=by
 intro K ρ a w b cs hi hb hk;obtain⟨e,a',w',⟨rfl,hq⟩,harr⟩:=wp_region (id:=id) (h K ρ a w hi) b k cs;obtain⟨v,w'',fr,hp,hst,h3⟩:=hq b cs hb hk;exact⟨v,w'',fr,hp,Steps.trans harr hst,h3⟩
theorem zv0 {ops:Array Oper} (h:Rch c k s):RG c ops [] s k:=fun K ρ a w hi=>⟨rfl,fun b cs hb hk=>h K ρ a w b cs hi hb hk⟩
def Stp (c:Cx) (o:Oper) (s:St) (Q:St→Prop):Prop:=
 ∀K ρ a w,Inv c.E K ρ s a w→∀(next:Act→World→Prop) (Qe:Exit→Act→World→Prop),(∀v w' s' K' ρ',K.le K' → zuh (zbw s o) ρ ρ' (shape s.S) (shape s'.S)→Inv c.E K' ρ' s' (a.put o.dst v) w' → Q s' → next (a.put o.dst v) w')→o.wp c.P a w next Qe
def zaR (ops:Array Oper) (s:St) (o:Oper):Option Bool:=match o.guard with
 |none=>some true
 |some (j,want)=>match (ops[j]?).bind (·.dst) with
  |none=>none
  |some t=>match s.get t with
   |.bt=>some want
   |.bf=>some (!want)
   |.tup []=>some false
   |_=>none
theorem zb5 {ops:Array Oper} {o:Oper} {b:Bool} {E:Env} {K:Kn} {ρ:Nat→Nat→Loc} {a:Act} {w:World} (hi:Inv E K ρ s a w) (h:zaR ops s o=some b):Region.wanted o (yielded ops a.tmps)=b:=by
 unfold zaR at h;unfold Region.wanted
 split at h
 ·rename_i hg;rw[hg];simpa using h
 ·rename_i j want hg;rw[hg]
  split at h
  ·cases h
  ·rename_i t ht;have hr:=hi.get t;have hy:∀x,a.tmps.getD t undef=.bool x→yielded ops a.tmps j=some x:=by
    intro x hx;unfold yielded;rw[ht];simp only[Option.bind_some];simp only[Array.getD_eq_getD_getElem?] at hx
    cases hh:a.tmps[t]? with
    |none=>rw[hh] at hx;simp[undef] at hx
    |some y=>rw[hh] at hx;simp only[Option.getD_some] at hx;rw[hx]
   split at h
   ·rename_i hs;rw[hs] at hr;have hv:a.tmps.getD t undef=.bool true:=by generalize a.tmps.getD t undef=v at hr;cases hr;rfl
    simp only[hy _ hv]
    cases want<;>simp_all
   ·rename_i hs;rw[hs] at hr;have hv:a.tmps.getD t undef=.bool false:=by generalize a.tmps.getD t undef=v at hr;cases hr;rfl
    simp only[hy _ hv]
    cases want<;>simp_all
   ·rename_i hs;rw[hs] at hr;have hv:a.tmps.getD t undef=.tuple #[]:=by
     generalize a.tmps.getD t undef=v at hr
     cases hr with
     |tup r=>cases r;rfl
    have hyn:yielded ops a.tmps j=none:=by
     unfold yielded;rw[ht];simp only[Option.bind_some];simp only[Array.getD_eq_getD_getElem?] at hv
     cases hh:a.tmps[t]? with
     |none=>rfl
     |some y=>rw[hh] at hv;simp only[Option.getD_some] at hv;rw[hv]
    simp only[Option.some.injEq] at h;rw[←h];show (yielded ops a.tmps j==some want)=false;rw[hyn];rfl
   ·cases h
theorem zw4 {ops:Array Oper} {i:Nat} {rest:List Nat} {o:Oper} (ho:ops[i]? = some o) (hw:zaR ops s o=some true) (h:Stp c o s fun s'=>RG c ops rest s' k):RG c ops (i::rest) s k:=by
 intro K ρ a w hi;simp only[wpOps,ho,zb5 hi hw,if_true];exact .inl (h K ρ a w hi _ _ fun v w' s' K' ρ' _ _ hi' hq=>hq K' ρ' _ w' hi')
theorem zk8 {ops:Array Oper} {i:Nat} {rest:List Nat} {o:Oper} {d:Nat} (ho:ops[i]? = some o) (hw:zaR ops s o=some false) (hd:o.dst=some d) (hn:d<s.n) (h:RG c ops rest (s.set d (.tup [])) k):RG c ops (i::rest) s k:=by
 intro K ρ a w hi;simp only[wpOps,ho,zb5 hi hw];rw[if_neg (by simp),hd];exact h K ρ _ w (zdw hi hn hi.h (Stays.refl _ _ _) (.tup .nil))
theorem zw5 {ops:Array Oper} {l:List Nat} {t:Nat} {b:Bool} (ht:s.get t=.i (.v (.bool b))) (h1:b=true→RG c ops l (s.set t .bt) k) (h2:b=false→RG c ops l (s.set t .bf) k):RG c ops l s k:=by
 intro K ρ a w hi;have hr:=hi.get t;rw[ht] at hr;have hv:=zaT hr;have hset:∀d,RepD K ρ (shape s.S) (.bool b) d→Inv c.E K ρ (s.set t d) a w:=by
  intro d hd;refine⟨hi.h,hi.defers,hi.size,fun t' d' e=>?_⟩;simp only[St.set,zac] at e
  split at e
  ·rename_i e';subst e';simp only[Option.some.injEq] at e;subst e;rw[hv];exact hd
  ·exact hi.slots _ _ e
 cases b with
 |true=>exact h1 rfl K ρ a w (hset _ .bt)
 |false=>exact h2 rfl K ρ a w (hset _ .bf)
def Does (c:Cx) (o:Oper) (s:St) (Q:St→Prop):Ask→Prop
 |.val d=>match o.dst with
  |some t=>t<s.n∧Q (s.set t d)
  |none=>False
 |.new adds d=>match o.dst,s.S with
  |some t,H::O=>t<s.n∧(∀nm,look adds nm≠none→look H nm=none)∧Q {σ:=(t,d)::s.σ,S:=(adds++H)::O,n:=s.n}
  |_,_=>False
 |.mod s'=>turns o=true∧Q s'
 |.need p k=>p∧Does c o s Q k
 |.elem xs i k=>∃d,xs[i]? = some d∧Does c o s Q (k d)
 |.obj dep nm k=>∃ob,zab s.S dep nm=some ob∧Does c o s Q (k ob)
 |.alt x y=>Does c o s Q x∨Does c o s Q y
 |.anyb p=>match o.dst with
  |some t=>t<s.n∧∀b,p b→Q (s.set t (.i (.v (.bool b))))
  |none=>False
 |.call f args=>∀K ρ a w,Inv c.E K ρ s a w→(∃vs,(execOp a.eval o).run c.P w=(callFunc f vs.toArray).run c.P w∧RepDL K ρ (shape s.S) vs args) →
   ∀(next:Act→World→Prop) (Qe:Exit→Act→World→Prop),(∀v w' s' K' ρ',K.le K' → zuh (zbw s o) ρ ρ' (shape s.S) (shape s'.S)→Inv c.E K' ρ' s' (a.put o.dst v) w' → Q s' → next (a.put o.dst v) w')→o.wp c.P a w next Qe
 |.bad=>False
theorem zbI (hT:TOk c.P c.T) {o:Oper} {Q:St→Prop} (h:Does c o s Q (exec c.T s o)):Stp c o s Q:=by
 intro K ρ a w hi next Qe hn
 have hcase:∀(k:Ask),Does c o s Q k→((o.dst=none∧SndO c.P 0 K ρ s.S w a o k)∨∃t,o.dst=some t∧SndO c.P t K ρ s.S w a o k)→(turns o=true→SndM c.P c.E K ρ s.S a w o (zbw s o) k)→o.wp c.P a w next Qe:=by
  intro k
  induction k with
  |val d=>
   intro h hs _;simp only[Does] at h;rcases hs with ⟨hs,_⟩|⟨t,ht,hs⟩
   ·rw[hs] at h;exact h.elim
   ·rw[ht] at h;obtain⟨v,hr,hrep⟩:=hs;simp only[Oper.wp,hr,Oper.upon];exact hn _ _ (s.set t d) _ _ K.le_refl (fun _ _ _ _ e=>⟨e,rfl⟩) (by rw[ht];exact zdw hi h.1 hi.h (Stays.refl _ _ _) hrep) h.2
  |new adds d=>
   intro h hs _;simp only[Does] at h;rcases hs with ⟨hs,_⟩|⟨t,ht,hs⟩
   ·rw[hs] at h;exact h.elim
   ·rw[ht] at h
    cases hS:s.S with
    |nil=>rw[hS] at h;exact h.elim
    |cons H O=>
     rw[hS] at h hs;obtain⟨h1,h2,h3⟩:=h;obtain⟨v,K',ρ',w',hr,hg,hrep⟩:=hs (by simpa [zab] using h2);have hh:=hi.h;rw[hS] at hh;obtain⟨hI,hst⟩:=HInv.grow (S:=H::O) rfl hh (fun _ _ _ e=>e) h2 hg;simp only[Oper.wp,hr,Oper.upon];refine hn _ _ _ _ _ hst.le (fun d n x _ e=>⟨hst.shp _ _ _ (by rw[hS] at e;exact e),hst.loc _ _ _ (by rw[hS] at e;exact e)⟩) ?_ h3;rw[ht];refine zdw hi h1 hI ?_ hrep;rw[hS];exact hst
  |mod s'=>
   intro h _ hm;obtain⟨r,w',K',ρ',hr,hle,hk,h1⟩:=hm h.1;simp only[Oper.wp,hr];rcases h1 with ⟨rfl,hi'⟩|⟨v,rfl,hi'⟩
   ·exact hn _ _ _ _ _ hle hk hi' h.2
   ·exact hn _ _ _ _ _ hle hk hi' h.2
  |need p k ih=>
   intro h hs hm;refine ih h.2 ?_ (fun ht=>hm ht h.1);rcases hs with ⟨hs,hs'⟩|⟨t,ht,hs⟩
   ·exact .inl ⟨hs,hs' h.1⟩
   ·exact .inr ⟨t,ht,hs h.1⟩
  |elem xs i k ih=>
   intro h hs hm;obtain⟨d,hd,h⟩:=h;refine ih d h ?_ (fun ht=>hm ht d hd);rcases hs with ⟨hs,hs'⟩|⟨t,ht,hs⟩
   ·exact .inl ⟨hs,hs' d hd⟩
   ·exact .inr ⟨t,ht,hs d hd⟩
  |obj dep nm k ih=>
   intro h hs hm;obtain⟨ob,ho,h⟩:=h;refine ih ob h ?_ (fun ht=>hm ht ob ho);rcases hs with ⟨hs,hs'⟩|⟨t,ht,hs⟩
   ·exact .inl ⟨hs,hs' ob ho⟩
   ·exact .inr ⟨t,ht,hs ob ho⟩
  |anyb p=>
   intro h hs _;simp only[Does] at h;rcases hs with ⟨hs,_⟩|⟨t,ht,hs⟩
   ·rw[hs] at h;exact h.elim
   ·rw[ht] at h;obtain⟨b,hr,hp⟩:=hs;simp only[Oper.wp,hr,Oper.upon];exact hn (.bool b) _ (s.set t (.i (.v (.bool b)))) _ _ K.le_refl (fun _ _ _ _ e=>⟨e,rfl⟩) (by rw[ht];exact zdw hi h.1 hi.h (Stays.refl _ _ _) (zbf rfl)) (h.2 b hp)
  |call f args=>
   intro h hs _;rcases hs with ⟨_,hs⟩|⟨t,ht,hs⟩
   ·exact h K ρ a w hi hs next Qe hn
   ·exact h K ρ a w hi hs next Qe hn
  |alt x y ih1 ih2=>
   intro h hs hm;rcases h with h|h
   ·refine ih1 h ?_ fun _=>?_
    ·rcases hs with ⟨h1,h2⟩|⟨t,ht,hs⟩
     ·exact .inl ⟨h1,h2.1⟩
     ·exact .inr ⟨t,ht,hs.1⟩
    ·rename_i htn;exact (hm htn).1
   ·refine ih2 h ?_ fun _=>?_
    ·rcases hs with ⟨h1,h2⟩|⟨t,ht,hs⟩
     ·exact .inl ⟨h1,h2.2⟩
     ·exact .inr ⟨t,ht,hs.2⟩
    ·rename_i htn;exact (hm htn).2
  |bad=>intro h;exact h.elim
 refine hcase _ h ?_ (fun ht=>zvv hT hi ht)
 cases hd:o.dst with
 |none=>exact .inl ⟨rfl,zi8 hT hi.h (.inr hd) fun x _=>hi.ev x⟩
 |some t=>exact .inr ⟨t,rfl,zi8 hT hi.h (.inl hd) fun x _=>hi.ev x⟩
end
end Go.AI
