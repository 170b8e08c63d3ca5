/- The layer of abstract runs, part 13. -/
import Derived.Test.YtnojpbbaohoadaaGreatDoorElkL
import Derived.WideKeyRuns
set_option linter.unusedSimpArgs false
set_option linter.unusedVariables false
set_option linter.all false
set_option maxHeartbeats 4000000
namespace Go.AI
section
variable {P:Program} {T:TT} {E:Env} {K:Kn} {ρ:Nat→Nat→Loc} {S:List Heap} {w:World} {s:St} {dst:Nat}
theorem zln {t:Nat} {i:TI} {kk:KK} (hok:TIok P t i) (h:i.k.isKK kk=true):(kk=.str∧P.underlying t=some .string)∨∃k,kk=.int k∧P.underlying t=some (.int k):=by
 have hk:=hok.kind
 cases hi:i.k<;>rw[hi] at hk h<;>cases kk<;>simp_all [TK.isKK,TKok]
theorem zsk {i:TI} {kk:KK} (h:∀k,kk ≠ .pair k):i.isKK kk=i.k.isKK kk:=by
 cases kk with
 |str=>rfl
 |int k=>rfl
 |pair k=>exact absurd rfl (h k)
theorem znu {i:TI} {k:IntKind} (h:i.isKK (.pair k)=true):i.cmp=[.int k,.int k]:=by
 have h:(match i.cmp with|[.int k1,.int k2]=>decide (k1=k)&&decide (k2=k)|_=>false)=true:=h
 split at h
 ·rename_i k1 k2 hc;simp only[Bool.and_eq_true,decide_eq_true_eq] at h;rw[hc,h.1,h.2]
 ·cases h
theorem zfB {v:Value} (h:KK.ok .str v=true):∃b,v=.string b:=by
 cases v<;>simp_all [KK.ok]
theorem zfC {k:IntKind} {v:Value} (h:KK.ok (.int k) v=true):∃n,v=.int k n:=by
 cases v<;>simp_all [KK.ok]
theorem zee {k:IntKind} {v:Value} (h:KK.ok (.pair k) v=true):∃a b,v=.agg ⟨[.int k a,.int k b]⟩:=by
 unfold KK.ok at h
 split at h
 ·rename_i heq;cases heq
 ·rename_i heq;cases heq
 ·rename_i k' k1 a k2 b heq;simp only[Bool.and_eq_true,decide_eq_true_eq] at h
  cases heq
  obtain⟨rfl,rfl⟩:=h;exact⟨_,_,rfl⟩
 ·cases h
theorem zwT {t:Nat} {i:TI} {kk:KK} {d:TypeDesc} (hd:P.underlying t=some d) (hok:TIok P t i) (h:i.k.isKK kk=true) {a b:Value} (ha:kk.ok a=true) (hb:kk.ok b=true):Instr.sameNow d a b=some (keyB a b):=by
 rcases zln hok h with ⟨rfl,hu⟩|⟨k,rfl,hu⟩
 ·rw[hu] at hd;simp only[Option.some.injEq] at hd;subst hd;obtain⟨x,rfl⟩:=zfB ha;obtain⟨y,rfl⟩:=zfB hb;rfl
 ·rw[hu] at hd;simp only[Option.some.injEq] at hd;subst hd;obtain⟨x,rfl⟩:=zfC ha;obtain⟨y,rfl⟩:=zfC hb;simp[Instr.sameNow,keyB]
def zbj:List (Value×Value)→Value→Nat→Option (Nat×Value)
 |[],_,_=>none
 |(k',x)::r,k,i=>bif keyB k k' then some (i,x) else zbj r k (i+1)
theorem zid {d:TypeDesc} {key:Value}:∀(es:List MapEntry) (i:Nat),(∀e∈es,Instr.sameNow d key e.key=some (keyB key e.key))→Instr.findNow d key es i=some (zbj (es.map fun e=>(e.key,e.val)) key i)
 |[],i,_=>rfl
 |e::r,i,h=>by
  simp only[Instr.findNow,h e (by simp),List.map_cons,zbj]
  cases keyB key e.key with
  |true=>rfl
  |false=>exact zid r (i+1) fun e he=>h e (by simp[he])
theorem zeJ {α:Type} (f:α→Value):∀(es:List (Value×α)) (k:Value) (i:Nat),(zbj (es.map fun p=>(p.1,f p.2)) k i).map (·.2)=(zdR es k).map f
 |[],k,i=>rfl
 |(k',x)::r,k,i=>by
  simp only[List.map_cons,zbj,zdR]
  cases keyB k k' with
  |true=>rfl
  |false=>exact zeJ f r k (i+1)
theorem zp7 {fs : List Field} {k : IntKind} (h : zc6 P fs 0 [.int k, .int k]) : ∃ f1 f2, fs = [f1, f2] ∧ (f1.name ≠ "_" ∧ f1.offset = 0 ∧ P.underlying f1.type = some (.int k)) ∧ (f2.name ≠ "_" ∧ f2.offset = 1 ∧ P.underlying f2.type = some (.int k)) := by
 match fs,h with
 |[f1,f2],h=>
  simp only[zc6] at h;exact⟨f1,f2,rfl,⟨h.1,h.2.1,h.2.2.1⟩,⟨h.2.2.2.1,by simpa using h.2.2.2.2.1,h.2.2.2.2.2.1⟩⟩
 |f1::f2::f3::r,h=>simp[zc6] at h
 |[f1],h=>simp[zc6] at h
 |[],h=>simp[zc6] at h
theorem zwj {t:Nat} {i:TI} {k:IntKind} (hok:TIok P t i) (h:i.cmp=[.int k,.int k]):zkW P t [.int k,.int k]:=by
 rcases hok.cmp with e|e
 ·rw[h] at e;cases e
 ·rwa [h] at e
theorem zrM {t:Nat} {k:IntKind} (hc:zkW P t [.int k,.int k]):(match P.underlying t with|some (.array _ _)|some (.struct _)=>true|_=>false)=true:=by
 rcases hc with ⟨h1,_⟩|⟨e,k',_,h1,_⟩<;>rw[h1]
theorem zpL {t:Nat} {k:IntKind} (hc:zkW P t [.int k,.int k]) (a b c d:Int) (w:World):(Op.equal t (.agg ⟨[.int k a,.int k b]⟩) (.agg ⟨[.int k c,.int k d]⟩)).run P w=.ok (a==c&&b==d) w:=by
 show (Op.equalIn Op.maxDepth t _ _).run P w=_;rcases hc with ⟨h1,h2,h3,h4⟩|⟨e,k',hk,h1,h2,⟨inf,h3,h4⟩,h5⟩
 ·have hx:RepDL (fun _ _=>none) (fun _ _=>⟨0,0,none⟩) (fun _ _=>none) [.int k a,.int k b] [.i (.v (.int k a)),.i (.v (.int k b))]:=.cons (.i (.v rfl)) (.cons (.i (.v rfl)) .nil);have hy:RepDL (fun _ _=>none) (fun _ _=>⟨0,0,none⟩) (fun _ _=>none) [.int k c,.int k d] [.i (.v (.int k c)),.i (.v (.int k d))]:=.cons (.i (.v rfl)) (.cons (.i (.v rfl)) .nil);have he:zbe [.int k,.int k] [.i (.v (.int k a)),.i (.v (.int k b))] [.i (.v (.int k c)),.i (.v (.int k d))]=some (a==c&&b==d):=by simp[zbe]
  have hrun:=zkQ (pre:=[]) (pre':=[]) h4 he hx hy rfl rfl 9998 w;simp only[List.nil_append] at hrun;exact (run_equalIn_agg w 9999 t _ _ h1 h2).trans hrun
 ·simp only[List.cons.injEq,TK.int.injEq,and_true,and_self] at hk;subst hk;exact zdC w 9998 t e k inf h1 h2 h3 h4 a b c d
theorem zkv {t:Nat} {k:IntKind} (hc:zkW P t [.int k,.int k]) {key:Value} (hk:KK.ok (.pair k) key=true) (w:World):∀(es:List MapEntry) (i:Nat),(∀e∈es,KK.ok (.pair k) e.key=true)→(Instr.findAsking t key es i).run P w=.ok (zbj (es.map fun e=>(e.key,e.val)) key i) w
 |[],i,_=>by simp[Instr.findAsking,zbj]
 |e::r,i,h=>by
  obtain⟨a,b,rfl⟩:=zee hk;obtain⟨c,d,he⟩:=zee (h e (by simp));have ih:=zkv hc hk w r (i+1) fun e he=>h e (by simp[he]);have heq:=zpL hc a b c d w;rw[←he] at heq;have hkb:keyB (.agg ⟨[.int k a,.int k b]⟩) e.key=(a==c&&b==d):=by rw[he];rfl
  simp only[Instr.findAsking,Sem.run_bind,heq,Result.andThen_ok,List.map_cons,zbj,hkb]
  cases (a==c&&b==d) with
  |true=>simp
  |false=>simpa using ih
theorem zqi {t:Nat} {k:IntKind} (hc:zkW P t [.int k,.int k]) (a b:Int) (em:Bool) (n:Nat) (w:World):(Instr.checkKey em (n+2) t (.agg ⟨[.int k a,.int k b]⟩)).run P w=.ok () w:=by
 rcases hc with ⟨h1,h2,h3,h4⟩|⟨e,k',hk,h1,h2,⟨inf,h3,h4⟩,h5⟩
 ·obtain⟨f1,f2,hf,⟨n1,o1,u1⟩,⟨n2,o2,u2⟩⟩:=zp7 h4;have q1:∀w,(part f1.type (⟨[.int k a,.int k b]⟩:Array Value) f1.offset).run P w=.ok (.int k a) w:=fun w=>run_part_plain w (zdP u1) (by rw[o1];rfl);have q2:∀w,(part f2.type (⟨[.int k a,.int k b]⟩:Array Value) f2.offset).run P w=.ok (.int k b) w:=fun w=>run_part_plain w (zdP u2) (by rw[o2];rfl);have c1:∀w x,(Instr.checkKey em (n+1) f1.type (.int k x)).run P w=.ok () w:=fun w x=>by simp[Instr.checkKey,run_underlying u1]
  have c2:∀w x,(Instr.checkKey em (n+1) f2.type (.int k x)).run P w=.ok () w:=fun w x=>by simp[Instr.checkKey,run_underlying u2]
  rw[Instr.checkKey];simp only[Sem.run_bind,run_underlying h1,Result.andThen_ok];rw[←Array.forIn_toList,hf];simp[n1,n2,q1,q2,c1,c2]
 ·simp only[List.cons.injEq,TK.int.injEq,and_true,and_self] at hk;subst hk;have h0:∀w,(Go.sizeOf e).run P w=.ok 1 w:=fun w=>by simp[Go.sizeOf,typeInfo,h3,h4]
  have hp:=zdP h2;have q0:∀w (u v:Int),(part e #[.int k u,.int k v] 0).run P w=.ok (.int k u) w:=fun w u v=>run_part_plain w hp rfl;have q1:∀w (u v:Int),(part e #[.int k u,.int k v] 1).run P w=.ok (.int k v) w:=fun w u v=>run_part_plain w hp rfl;have c1:∀w x,(Instr.checkKey em (n+1) e (.int k x)).run P w=.ok () w:=fun w x=>by simp[Instr.checkKey,run_underlying h2]
  rw[Instr.checkKey];simp only[Sem.run_bind,run_underlying h1,Result.andThen_ok];rw[Std.Legacy.Range.forIn_eq_forIn_range'];simp[List.range',q0,q1,c1,h0]
theorem ziE {t:Nat} {i:TI} {kk:KK} (hok:TIok P t i) (h:i.k.isKK kk=true) {key:Value} (hk:kk.ok key=true) (e:Bool) (n:Nat) (w:World):(Instr.checkKey e (n+1) t key).run P w=.ok () w:=by
 rcases zln hok h with ⟨rfl,hu⟩|⟨k,rfl,hu⟩
 ·obtain⟨x,rfl⟩:=zfB hk;simp[Instr.checkKey,run_underlying hu]
 ·obtain⟨x,rfl⟩:=zfC hk;simp[Instr.checkKey,run_underlying hu]
theorem run_checkKey {t:Nat} {i:TI} {kk:KK} (hok:TIok P t i) (h:i.isKK kk=true) {key:Value} (hk:kk.ok key=true) (e:Bool) (w:World):(Instr.checkKey e 10000 t key).run P w=.ok () w:=by
 by_cases hp:∃k,kk=.pair k
 ·obtain⟨k,rfl⟩:=hp;obtain⟨a,b,rfl⟩:=zee hk;exact zqi (zwj hok (znu h)) a b e 9998 w
 ·exact ziE hok (by rw[←zsk fun k e=>hp ⟨k,e⟩];exact h) hk e 9999 w
theorem zyf {t:Nat} {i:TI} {kk:KK} (hok:TIok P t i) (h:i.k.isKK kk=true):∃d,P.underlying t=some d:=by
 rcases zln hok h with ⟨rfl,hu⟩|⟨k,rfl,hu⟩
 ·exact⟨_,hu⟩
 ·exact⟨_,hu⟩
theorem run_findKey {t:Nat} {i:TI} {kk:KK} (hok:TIok P t i) (h:i.isKK kk=true) {key:Value} (hk:kk.ok key=true) {es:List MapEntry} {m:List (Value×Value)} (he:es.map (fun e=>(e.key,e.val))=m) (hm:∀p∈m,kk.ok p.1=true) (w:World) :
  (Instr.findKey t key es).run P w=.ok (zbj m key 0) w:=by
 have hes:∀e∈es,kk.ok e.key=true:=fun e h1=>hm (e.key,e.val) (by rw[←he];exact List.mem_map.2 ⟨e,h1,rfl⟩)
 by_cases hp:∃k,kk=.pair k
 ·obtain⟨k,rfl⟩:=hp;have hc:=zwj hok (znu h);rw[run_findKey_eq w (zrM hc),zkv hc hk w es 0 hes,he]
 ·have h':i.k.isKK kk=true:=by rw[←zsk fun k e=>hp ⟨k,e⟩];exact h
  obtain⟨d,hd⟩:=zyf hok h';have:=zid (d:=d) (key:=key) es 0 fun e h1=>zwT hd hok h' hk (hes e h1);simp[Instr.findKey,run_underlying hd,this,he]
theorem zkb {sh:Nat→Nat→Option Sh} {d:D} {x v:Value} (h:d.keyOf=some x) (hr:RepD K ρ sh v d):v=x:=by
 unfold D.keyOf at h
 split at h
 ·simp only[Option.some.injEq] at h;subst h;exact zaT hr
 ·simp only[Option.some.injEq] at h;subst h
  cases hr with
  |agg r=>cases r with
   |cons r1 r=>cases r with
    |cons r2 r=>cases r;rw[zaT r1,zaT r2]
 ·cases h
theorem zwt {t:Nat} {i:TI} (hok:TIok P t i) {z:Value} (hz:i.zero=[z]) (ha:i.k.agg=false) (w:World):(zeroValue t).run P w=.ok z w:=by
 obtain⟨inf,h1,h2,h3,z',h4,h5,h6⟩:=hok.info;have:=h6 ha;rw[hz] at this;simp only[List.cons.injEq,and_true] at this;subst this;simp[zeroValue,typeInfo,h1,h4]
theorem zp2 {l:List Value} (h:zgi l=true):l=[.bool false]:=by
 unfold zgi at h
 split at h
 ·rfl
 ·cases h
theorem zsi {k:IntKind} {l:List Value} (h:ziW k l=true):l=[.int k 0]:=by
 unfold ziW at h
 split at h
 ·simp only[decide_eq_true_eq] at h;subst h;rfl
 ·cases h
theorem zsl {sh:Nat→Nat→Option Sh} {v:Value} {dep nm:Nat} (h:RepD K ρ sh v (.osl dep nm)) (e:sh dep nm=some .mp):v=.map (some (ρ dep nm).block):=by
 cases h with
 |omp=>rfl
 |osl e'=>rw[e] at e';cases e'
theorem zhT {t kt vt:Nat} {ki vi:TI} {kk:KK} (hu:P.underlying t=some (.map kt vt)) (hk:TIok P kt ki) (hv:TIok P vt vi) (hkk:ki.isKK kk=true) {key z:Value} (hkey:kk.ok key=true) (hz:vi.zero=[z]) (ha:vi.k.agg=false)
  {b:Nat} {es:Array MapEntry} {ck:Nat} {m:List (Value×Value)} (hb:w.heap[b]? = some (.map es ck)) (he:es.toList.map (fun e=>(e.key,e.val))=m) (hm:∀p∈m,kk.ok p.1=true) (ok:Bool) :
  (Instr.lookup t (.map (some b)) key ok).run P w=.ok (match ok with
   |true=>.tuple #[((zbj m key 0).map (·.2)).getD z,.bool (zbj m key 0).isSome]
   |false=>((zbj m key 0).map (·.2)).getD z) w:=by
 have hf:=run_findKey hk hkk hkey he hm w;have hc:=run_checkKey (P:=P) hk hkk hkey es.isEmpty w;have hzz:=zwt (P:=P) hv hz ha w;have hg:(getObj b).run P w=.ok (.map es ck) w:=by simp[getObj,Sem.run,hb]
 simp only[Instr.lookup,Sem.run_bind,run_underlying hu,Result.andThen_ok,hg,Sem.run_pure,hc,hf]
 cases hmf:zbj m key 0 with
 |some r=>cases ok<;>simp
 |none=>cases ok<;>simp[hzz]
theorem zpw (hT:TOk P T) (hw:HInv E K ρ s.S w) {t:Nat} {vx vi:Value} {x ix:D} (hx:RepD K ρ (shape s.S) vx x) (hix:RepD K ρ (shape s.S) vi ix) (ok:Bool) :
  SndV P dst K ρ s.S w (Instr.lookup t vx vi ok) (zei T s t x ix ok):=by
 unfold zei
 split
 ·rename_i sz by_ kt vt z cm hi;have hu:P.underlying t=some (.map kt vt):=(hT _ _ hi).kind
  split
  ·rename_i ki vi' hki hvi;have hk:=hT _ _ hki;have hv:=hT _ _ hvi
   split
   ·rename_i dep nm key hkx;obtain rfl:=(zkb hkx hix).symm;refine hobj rfl fun ob ho=>?_
    cases ob with
    |box=>trivial
    |tb=>trivial
    |arr=>trivial
    |mp kk m=>
     have hown:=zet hw ho;obtain rfl:=zsl hx (zcD dep nm ho);obtain⟨⟨es,ck,h1,h2,h3⟩,h4⟩:=hown
     cases m with
     |b l=>
      dsimp only
      cases hb:(ki.isKK kk&&kk.ok key&&zgi vi'.zero&&!vi'.k.agg) with
      |false=>trivial
      |true=>
       simp only[Bool.and_eq_true,Bool.not_eq_true'] at hb;obtain⟨⟨⟨b1,b2⟩,b3⟩,b4⟩:=hb;have hr:=zhT (w:=w) hu hk hv b1 b2 (zp2 b3) b4 h1 h2 h3 ok;have hl:=zeJ (fun b:Bool=>Value.bool b) l key 0;have hg:((zbj (MC.vals (.b l)) key 0).map (·.2)).getD (.bool false)=.bool (ziS l key):=by
        show ((zbj (l.map fun p=>(p.1,Value.bool p.2)) key 0).map (·.2)).getD _=_;rw[hl];unfold ziS
        cases zdR l key<;>rfl
       have hs:(zbj (MC.vals (.b l)) key 0).isSome=mhas l key:=by
        show (zbj (l.map fun p=>(p.1,Value.bool p.2)) key 0).isSome=_;have:=congrArg Option.isSome hl;simpa [mhas] using this
       rw[hg,hs] at hr
       cases ok with
       |true=>exact⟨_,hr,.tup (.cons (zbf rfl) (.cons (zbf rfl) .nil))⟩
       |false=>exact⟨_,hr,zbf rfl⟩
     |i k l=>
      dsimp only
      cases hb:(ki.isKK kk&&kk.ok key&&ziW k vi'.zero&&!vi'.k.agg) with
      |false=>trivial
      |true=>
       simp only[Bool.and_eq_true,Bool.not_eq_true'] at hb;obtain⟨⟨⟨b1,b2⟩,b3⟩,b4⟩:=hb;have hr:=zhT (w:=w) hu hk hv b1 b2 (zsi b3) b4 h1 h2 h3 ok;have hl:=zeJ (fun n:Int=>Value.int k n) l key 0;have hg:((zbj (MC.vals (.i k l)) key 0).map (·.2)).getD (.int k 0)=.int k (zpW l key):=by
        show ((zbj (l.map fun p=>(p.1,Value.int k p.2)) key 0).map (·.2)).getD _=_;rw[hl];unfold zpW
        cases zdR l key<;>rfl
       have hs:(zbj (MC.vals (.i k l)) key 0).isSome=mhas l key:=by
        show (zbj (l.map fun p=>(p.1,Value.int k p.2)) key 0).isSome=_;have:=congrArg Option.isSome hl;simpa [mhas] using this
       rw[hg,hs] at hr
       cases ok with
       |true=>exact⟨_,hr,.tup (.cons (zbf rfl) (.cons (zbf rfl) .nil))⟩
       |false=>exact⟨_,hr,zbf rfl⟩
   ·trivial
  ·trivial
 ·trivial
theorem zlw (hw:HInv E K ρ S w) (hf:zab S 0 dst=none) {ob:Ob} {l:Loc} {oo:Obj} {w':World} (hw':w'=w∨w'=w.drew) (hl:zaA l ob→l.block=w.heap.size)
  (hown:OwnAt K (upd ρ dst l) (shape (addS S [(dst,ob)])) (w'.alloc oo) l ob):Grow K ρ S w [(dst,ob)] K (upd ρ dst l) (w'.alloc oo):=by
 have hheap:w'.heap=w.heap:=by rcases hw' with rfl|rfl<;>rfl
 have hold:∀b,b<w.heap.size→(w'.alloc oo).heap[b]? = w.heap[b]?:=by
  intro b hb;have:=heap_alloc_old w' oo b (by rw[hheap];exact hb);rw[this,hheap]
 refine⟨K.le_refl,fun _ _ _ h=>.inl h,by simp[World.size_alloc,hheap],hold,?_,?_,?_,?_,?_⟩
 ·rcases hw' with rfl|rfl<;>exact⟨rfl,rfl,rfl⟩
 ·intro dep nm h;refine zaS _ _ _ ?_;rcases h with h|h
  ·exact .inl h
  ·rw[zac] at h
   split at h
   ·cases h
   ·rename_i hn;exact .inr fun e=>hn e.symm
 ·intro b o x hx;have h1:=hw.holds _ _ _ hx;have hb:b<w.heap.size:=by
   rcases Nat.lt_or_ge b w.heap.size with h|h
   ·exact h
   ·rw[hw.K_fresh h] at hx;cases hx
  rw[World.cell?,hold b hb];exact h1
 ·intro nm ob' h;rw[zac] at h
  split at h
  ·rename_i hn;subst hn;simp only[Option.some.injEq] at h;subst h;rw[zaX];exact⟨hown,fun hb=>by rw[hl hb];exact Nat.le_refl _⟩
  ·simp[look] at h
 ·intro nm ob1 nm' ob2 h1 h2 _ _ _;rw[zac] at h1 h2
  split at h1
  ·split at h2
   ·omega
   ·simp[look] at h2
  ·simp[look] at h1
theorem zk6 (hT:TOk P T) (hw:HInv E K ρ S w) {t:Nat} {vr:Option Value} {r:Option D} (hr:∀d,r=some d→∃v,vr=some v∧RepD K ρ (shape S) v d) (hr':r=none→vr=none) :
  SndV P dst K ρ S w (Instr.makeMap t vr) (zhp T dst t r):=by
 have main:∀{kt vt:Nat} {kk:KK} {m:MC},P.underlying t=some (.map kt vt)→m.vals=[]→(∀w,(Instr.makeMap t vr).run P w=.ok (.map (some w.heap.size)) (w.alloc (.map #[] 0)))→SndV P dst K ρ S w (Instr.makeMap t vr) (.new [(dst,.mp kk m)] (.osl 0 dst)):=by
  intro kt vt kk m hu hm hrun hf;have hf':zab S 0 dst=none:=hf dst (by simp[zac]);have hg:Grow K ρ S w [(dst,.mp kk m)] K (upd ρ dst ⟨w.heap.size,0,none⟩) (w.alloc (.map #[] 0)):=by
   refine zlw hw hf' (.inl rfl) (fun _=>rfl) ⟨⟨#[],0,heap_alloc_new w _,by rw[hm];rfl,by rw[hm];simp⟩,fun o=>hw.K_fresh (Nat.le_refl _)⟩
  refine⟨_,K,_,_,hrun w,hg,?_⟩;have hsh:shape (addS S [(dst,.mp kk m)]) 0 dst=some .mp:=by
   cases S with
   |nil=>simp[shape,addS,zab,zac,Ob.sh]
   |cons H O=>simp[shape,zbx,zac,Ob.sh]
  have:=RepD.omp (K:=K) (ρ:=upd ρ dst ⟨w.heap.size,0,none⟩) hsh;rwa [zaX] at this
 have hm0:∀{i:TI} {m:MC},i.k.mc=some m→m.vals=[]:=by
  intro i m h
  cases hi:i.k<;>rw[hi] at h<;>simp only[TK.mc,Option.some.injEq,reduceCtorEq] at h<;>subst h<;>rfl
 unfold zhp
 split
 ·rename_i sz by_ kt vt z cm hi;have hu:P.underlying t=some (.map kt vt):=(hT _ _ hi).kind
  split
  ·rename_i hki hvi
   split
   ·rename_i kk m h1 h2;rw[hr' rfl] at main ⊢;exact main hu (hm0 h2) fun w=>rfl
   ·trivial
  ·rename_i hki hvi
   split
   ·rename_i kk m h1 h2;obtain⟨v,rfl,hv⟩:=hr _ rfl;obtain rfl:=zaT hv;exact main hu (hm0 h2) fun w=>by simp only[Instr.makeMap,Sem.run_bind,run_underlying hu,Result.andThen_ok,asInt,Sem.run_pure];rfl
   ·trivial
  ·trivial
 ·trivial
theorem zql (x y:ByteArray):(x==y)=true↔x=y:=by
 cases x;cases y
 show ByteArray.beq _ _=true↔_;simp[ByteArray.beq]
theorem zxA {kk:KK} {a b:Value} (ha:kk.ok a=true) (hb:kk.ok b=true) (h:keyB a b=true):a=b:=by
 cases kk with
 |str=>
  obtain⟨x,rfl⟩:=zfB ha;obtain⟨y,rfl⟩:=zfB hb;simp only[keyB,zql] at h;rw[h]
 |int k=>
  obtain⟨x,rfl⟩:=zfC ha;obtain⟨y,rfl⟩:=zfC hb;simp only[keyB,beq_iff_eq] at h;rw[h]
 |pair k=>
  obtain⟨x,y,rfl⟩:=zee ha;obtain⟨x',y',rfl⟩:=zee hb;simp only[keyB,Bool.and_eq_true,beq_iff_eq] at h;rw[h.1,h.2]
theorem zrC {kk:KK} {a:Value} (ha:kk.ok a=true) (n:Nat):Instr.sameBits (n+1) a a=true:=by
 cases kk with
 |pair k=>obtain⟨x,y,rfl⟩:=zee ha;simp[Instr.sameBits]
 |str=>obtain⟨x,rfl⟩:=zfB ha;simp only[Instr.sameBits,zql]
 |int k=>obtain⟨x,rfl⟩:=zfC ha;simp[Instr.sameBits]
theorem zeI:∀{l:List (Value×Value)} {k:Value} {i j:Nat} {v:Value},zbj l k i=some (j,v)→i≤j∧∃k',l[j-i]? = some (k',v)∧keyB k k'=true
 |[],k,i,j,v,h=>by cases h
 |(k',x)::r,k,i,j,v,h=>by
  simp only[zbj] at h
  cases hb:keyB k k' with
  |true=>
   rw[hb] at h;simp only[cond_true,Option.some.injEq,Prod.mk.injEq] at h;obtain⟨rfl,rfl⟩:=h;exact⟨Nat.le_refl _,k',by simp,hb⟩
  |false=>
   rw[hb] at h;obtain⟨h1,k'',h2,h3⟩:=zeI h;refine⟨by omega,k'',?_,h3⟩;rw[show j-i=(j-(i+1))+1 by omega];simpa using h2
theorem zgZ {α:Type} (f:α→Value) {x:α} {k:Value}:∀{l:List (Value×α)} {i j:Nat} {v:Value},zbj (l.map fun p=>(p.1,f p.2)) k i=some (j,v)→(mset l k x).map (fun p=>(p.1,f p.2))=(l.map fun p=>(p.1,f p.2)).modify (j-i) fun _=>(k,f x)
 |[],i,j,v,h=>by cases h
 |(k',y)::r,i,j,v,h=>by
  simp only[List.map_cons,zbj] at h;simp only[mset]
  cases hb:keyB k k' with
  |true=>
   rw[hb] at h;simp only[cond_true,Option.some.injEq,Prod.mk.injEq] at h;obtain⟨rfl,rfl⟩:=h;simp
  |false=>
   rw[hb] at h;have h1:=(zeI h).1;simp only[cond_false,List.map_cons];rw[zgZ f h,show j-i=(j-(i+1))+1 by omega];simp
theorem zg0 {α:Type} (f:α→Value) {x:α} {k:Value}:∀{l:List (Value×α)} {i:Nat},zbj (l.map fun p=>(p.1,f p.2)) k i=none→(mset l k x).map (fun p=>(p.1,f p.2))=(l.map fun p=>(p.1,f p.2))++[(k,f x)]
 |[],i,h=>rfl
 |(k',y)::r,i,h=>by
  simp only[List.map_cons,zbj] at h;simp only[mset]
  cases hb:keyB k k' with
  |true=>rw[hb] at h;cases h
  |false=>
   rw[hb] at h;simp only[cond_false,List.map_cons,List.cons_append];rw[zg0 f h]
theorem ziD {t kt vt:Nat} {ki:TI} {kk:KK} (hu:P.underlying t=some (.map kt vt)) (hk:TIok P kt ki) (hkk:ki.isKK kk=true) {key val:Value} (hkey:kk.ok key=true)
  {b:Nat} {es:Array MapEntry} {ck:Nat} {m:List (Value×Value)} (hb:w.heap[b]? = some (.map es ck)) (he:es.toList.map (fun e=>(e.key,e.val))=m) (hm:∀p∈m,kk.ok p.1=true) :
  ∃es' ck',(Instr.mapUpdate t (.map (some b)) key val).run P w=.ok () {w with heap:=w.heap.setIfInBounds b (.map es' ck')} ∧
   es'.toList.map (fun e=>(e.key,e.val))=match zbj m key 0 with
    |some (j,_)=>m.modify j fun _=>(key,val)
    |none=>m++[(key,val)]:=by
 have hf:=run_findKey hk hkk hkey he hm w;have hc:=run_checkKey (P:=P) hk hkk hkey false w;have hg:(getObj b).run P w=.ok (.map es ck) w:=by simp[getObj,Sem.run,hb]
 have hs:∀o,(setObj b o).run P w=.ok () {w with heap:=w.heap.setIfInBounds b o}:=fun o=>by simp[setObj,Sem.run,hb]
 cases hmf:zbj m key 0 with
 |none=>
  refine⟨es.push {key:=key,val:=val,born:=ck},ck+1,?_,by simp[he]⟩;simp only[Instr.mapUpdate,Sem.run_bind,run_underlying hu,Result.andThen_ok,hg,hc,hf,hmf,hs]
 |some r=>
  obtain⟨j,v⟩:=r;obtain⟨-,k',h2,h3⟩:=zeI hmf;rw[Nat.sub_zero] at h2;have hk':kk.ok k'=true:=hm _ (List.mem_of_getElem? h2);obtain rfl:=zxA hkey hk' h3;rw[←he,List.getElem?_map] at h2;obtain⟨e,he1,he2⟩:=Option.map_eq_some_iff.1 h2;simp only[Prod.mk.injEq] at he2;obtain⟨rfl,rfl⟩:=he2;have hej:es[j]? = some e:=by simpa using he1
  refine⟨es.modify j fun e'=>{ e' with key:=e.key,val:=val},ck,?_,?_⟩
  ·have hst:(Instr.keyThatStays (((es[j]?).map (·.key)).getD e.key) e.key).run P w=.ok e.key w:=by
    rw[hej];simp only[Option.map_some,Option.getD_some,Instr.keyThatStays,zrC hkey 9999,if_true,Sem.run_pure]
   simp only[Instr.mapUpdate,Sem.run_bind,run_underlying hu,Result.andThen_ok,hg,hc,hf,hmf,hst,hs]
  ·rw[←he];simp only[Array.toList_modify];generalize es.toList=l;clear hej hmf he1 h2
   induction l generalizing j with
   |nil=>simp
   |cons a r ih=>
    cases j with
    |zero=>simp
    |succ j=>simpa using ih j
theorem zhS (hT:TOk P T) {s:St} {a:Act} (h:Inv E K ρ s a w) {o:Oper} {t:Nat} {x y z:Operand} (ho:o.op=.mapUpdate t x y z∨o.op=.insert t x y z) (hd:o.dst=none) {dx dy dz:D}
  (hx:RepD K ρ (shape s.S) (a.eval x) dx) (hy:RepD K ρ (shape s.S) (a.eval y) dy) (hz:RepD K ρ (shape s.S) (a.eval z) dz):SndM P E K ρ s.S a w o none (zfj T s t dx dy dz):=by
 unfold zfj
 split
 ·rename_i sz by_ kt vt zr cm hi;have hu:P.underlying t=some (.map kt vt):=(hT _ _ hi).kind
  split
  ·rename_i ki hki;have hk:=hT _ _ hki
   split
   ·rename_i dep nm key hkx;have hyv:=zkb hkx hy;refine objM _ _ _ fun ob hob=>?_
    cases ob with
    |box=>trivial
    |tb=>trivial
    |arr=>trivial
    |mp kk m=>
     have hown:=zet h.h hob;have hxv:=zsl hx (zcD dep nm hob);obtain⟨⟨es,ck,h1,h2,h3⟩,h4⟩:=hown;have main:∀{m':MC} {val:Value},a.eval z=val→ki.isKK kk=true→kk.ok key=true →
       (m'.vals=match zbj m.vals key 0 with
        |some (j,_)=>m.vals.modify j fun _=>(key,val)
        |none=>m.vals++[(key,val)])→SndM P E K ρ s.S a w o none (.mod {s with S:=setAt s.S dep nm (.mp kk m')}):=by
      intro m' val hzv b1 b2 hm';obtain⟨es',ck',hrun,hes⟩:=ziD (P:=P) (w:=w) (val:=val) hu hk b1 b2 h1 h2 h3;rw[←hm'] at hes;have hlt:(ρ dep nm).block<w.heap.size:=(Array.getElem?_eq_some_iff.1 h1).1;have hok:∀p∈m'.vals,kk.ok p.1=true:=by
       intro p hp;rw[hm'] at hp
       split at hp
       ·rename_i j v hj;rw[List.mem_iff_getElem?] at hp;obtain⟨n,hn⟩:=hp;rw[List.getElem?_modify] at hn
        split at hn
        ·obtain⟨q,hq1,hq2⟩:=Option.map_eq_some_iff.1 hn;rw[←hq2];exact b2
        ·have hn:m.vals[n]? = some p:=by simpa using hn
         exact h3 p (List.mem_of_getElem? hn)
       ·rcases List.mem_append.1 hp with hp|hp
        ·exact h3 p hp
        ·simp only[List.mem_singleton] at hp;subst hp;exact b2
      have hI:HInv E K ρ (setAt s.S dep nm (.mp kk m')) {w with heap:=w.heap.setIfInBounds (ρ dep nm).block (.map es' ck')}:=by
       refine h.h.put hob rfl trivial trivial (by simp) (fun b hb=>?_) ⟨rfl,rfl,rfl⟩ (fun o x hk=>?_) ⟨⟨es',ck',by simp[hlt],hes,hok⟩,h4⟩
       ·simp only[Array.getElem?_setIfInBounds];rw[if_neg (fun e=>hb e.symm)]
       ·rw[h4 o] at hk;cases hk
      have hsh:shape (setAt s.S dep nm (.mp kk m'))=shape s.S:=zbJ hob rfl;have hI2:=zyO h hI hsh;have hput:a.put o.dst undef=a:=by rw[hd];rfl
      rw[←hput] at hI2;refine⟨.skip,_,K,ρ,?_,K.le_refl,fun d n x _ e=>⟨by rw[hsh];exact e,rfl⟩,.inl ⟨rfl,hI2⟩⟩;rcases ho with ho|ho<;>simp only[execOp,ho,hxv,hyv,hzv,hrun,Sem.run_bind,Result.andThen_ok,Sem.run_pure]
     cases m with
     |b l=>
      dsimp only
      cases hb:(ki.isKK kk&&kk.ok key) with
      |false=>trivial
      |true=>
       simp only[Bool.and_eq_true] at hb;simp only[cond_true]
       split
       ·rename_i b hbb;refine main (zlp hz hbb) hb.1 hb.2 ?_;show (mset l key b).map (fun p=>(p.1,Value.bool p.2))=_
        split
        ·rename_i j v hj;have:=zgZ (fun b:Bool=>Value.bool b) (x:=b) hj;rw[Nat.sub_zero] at this;exact this
        ·rename_i hj;exact zg0 (fun b:Bool=>Value.bool b) hj
       ·trivial
     |i k l=>
      dsimp only
      cases hb:(ki.isKK kk&&kk.ok key) with
      |false=>trivial
      |true=>
       simp only[Bool.and_eq_true] at hb;simp only[cond_true]
       split
       ·rename_i k' n
        cases hkk:decide (k=k') with
        |false=>trivial
        |true=>
         have:=of_decide_eq_true hkk;subst this;refine main (zaT hz) hb.1 hb.2 ?_;show (mset l key n).map (fun p=>(p.1,Value.int k p.2))=_
         split
         ·rename_i j v hj;have:=zgZ (fun n:Int=>Value.int k n) (x:=n) hj;rw[Nat.sub_zero] at this;exact this
         ·rename_i hj;exact zg0 (fun n:Int=>Value.int k n) hj
       ·trivial
   ·trivial
  ·trivial
 ·trivial
end
end Go.AI
