/- The layer of abstract runs, part 19. -/
import Derived.Test.YtnojpbbaohoadaaGreatDoorIbxR
import Derived.Shelf.Strings.Builder1
import Derived.Shelf.Strconv.Itoa0
import Derived.Shelf.Strconv.Itoa1
import Derived.Shelf.LaysM
import Derived.Shelf.Strconv.Itoa2
import Derived.Shelf.Strconv.Itoa3
import Derived.Shelf.Sort.Plain
import Derived.Shelf.Slices.CompactI
import Derived.Shelf.Slices.Cells
import Derived.Test.YtnojpbbaohoadaaGreatDoorProg
import Derived.Orders
set_option linter.unusedSimpArgs false
set_option linter.unusedVariables false
set_option linter.all false
set_option maxHeartbeats 4000000
namespace Go.Proofs
open Go.Shelf
def Tryz.lays169_ren:Go.Shelf.Ren:=⟨fun|169=>157|n=>n,fun|70=>275|9=>9|0=>0|72=>277|37=>71|127=>340|3=>3|5=>5|n=>n,fun|n=>n⟩
theorem Tryz.lays169:Go.Proofs.Lays.n169 Tryz.prog Tryz.lays169_ren:={
 mixed:=by kernel_rfl
 f169:=Tryz.func157.trans (congrArg some (by kernel_rfl))
 t0:=Tryz.underlying0
 a0:=Tryz.isAgg0
 z0:=Tryz.sizeOf0
 v0:=Tryz.zeroValue0
 t3:=Tryz.underlying3
 a3:=Tryz.isAgg3
 z3:=Tryz.sizeOf3
 v3:=Tryz.zeroValue3
 t9:=Tryz.underlying9
 a9:=Tryz.isAgg9
 z9:=Tryz.sizeOf9
 v9:=Tryz.zeroValue9
 t37:=Tryz.underlying71
 a37:=Tryz.isAgg71
 z37:=Tryz.sizeOf71
 v37:=Tryz.zeroValue71
 t70:=Tryz.underlying275
 a70:=Tryz.isAgg275
 z70:=Tryz.sizeOf275
 v70:=Tryz.zeroValue275
 t72:=Tryz.underlying277
 a72:=Tryz.isAgg277
 z72:=Tryz.sizeOf277
 v72:=Tryz.zeroValue277
 t127:=Tryz.underlying340
 a127:=Tryz.isAgg340
 z127:=Tryz.sizeOf340
 v127:=Tryz.zeroValue340}
theorem Tryz.Builder_Extra_169:Builder.Extra Tryz.prog Tryz.lays169_ren:={
 sizeBuilder:=by kernel_rfl
 liesBuilder:=by kernel_rfl
 t5:=Tryz.underlying5
 a5:=Tryz.isAgg5
 z5:=Tryz.sizeOf5
 v5:=Tryz.zeroValue5
 infoByte:=by kernel_rfl
 cellsByte:=by kernel_rfl
 sizeByte:=by kernel_rfl
 neB5:=by decide}
def Tryz.laysM171_ren:Go.Shelf.Ren:=⟨fun|171=>27|243=>77|246=>154|283=>214|284=>215|285=>216|286=>217|129=>191|317=>247|318=>248|319=>249|320=>250|337=>276|338=>277|n=>n,fun|3=>3|9=>9|2=>2|4=>4|171=>336|0=>0|53=>321|37=>71|5=>5|173=>338|212=>369|51=>319|20=>20|213=>370|46=>257|232=>392|233=>393|n=>n,fun|17=>0|18=>1|19=>2|n=>n⟩
theorem Tryz.laysM171:Go.Proofs.LaysM.n171 Tryz.prog Tryz.laysM171_ren:={
 mixed:=by kernel_rfl
 f129:=Tryz.func191.trans (congrArg some (by kernel_rfl))
 f171:=Tryz.func27.trans (congrArg some (by kernel_rfl))
 f243:=Tryz.func77.trans (congrArg some (by kernel_rfl))
 f246:=Tryz.func154.trans (congrArg some (by kernel_rfl))
 f283:=Tryz.func214.trans (congrArg some (by kernel_rfl))
 f284:=Tryz.func215.trans (congrArg some (by kernel_rfl))
 f285:=Tryz.func216.trans (congrArg some (by kernel_rfl))
 f286:=Tryz.func217.trans (congrArg some (by kernel_rfl))
 f317:=Tryz.func247.trans (congrArg some (by kernel_rfl))
 f318:=Tryz.func248.trans (congrArg some (by kernel_rfl))
 f319:=Tryz.func249.trans (congrArg some (by kernel_rfl))
 f320:=Tryz.func250.trans (congrArg some (by kernel_rfl))
 f337:=Tryz.func276.trans (congrArg some (by kernel_rfl))
 f338:=Tryz.func277.trans (congrArg some (by kernel_rfl))
 t0:=Tryz.underlying0
 a0:=Tryz.isAgg0
 z0:=Tryz.sizeOf0
 v0:=Tryz.zeroValue0
 t2:=Tryz.underlying2
 a2:=Tryz.isAgg2
 z2:=Tryz.sizeOf2
 v2:=Tryz.zeroValue2
 t3:=Tryz.underlying3
 a3:=Tryz.isAgg3
 z3:=Tryz.sizeOf3
 v3:=Tryz.zeroValue3
 t4:=Tryz.underlying4
 a4:=Tryz.isAgg4
 z4:=Tryz.sizeOf4
 v4:=Tryz.zeroValue4
 t5:=Tryz.underlying5
 a5:=Tryz.isAgg5
 z5:=Tryz.sizeOf5
 v5:=Tryz.zeroValue5
 t9:=Tryz.underlying9
 a9:=Tryz.isAgg9
 z9:=Tryz.sizeOf9
 v9:=Tryz.zeroValue9
 t20:=Tryz.underlying20
 a20:=Tryz.isAgg20
 z20:=Tryz.sizeOf20
 v20:=Tryz.zeroValue20
 t37:=Tryz.underlying71
 a37:=Tryz.isAgg71
 z37:=Tryz.sizeOf71
 v37:=Tryz.zeroValue71
 t46:=Tryz.underlying257
 a46:=Tryz.isAgg257
 z46:=Tryz.sizeOf257
 v46:=Tryz.zeroValue257
 t51:=Tryz.underlying319
 a51:=Tryz.isAgg319
 z51:=Tryz.sizeOf319
 v51:=Tryz.zeroValue319
 t53:=Tryz.underlying321
 a53:=Tryz.isAgg321
 z53:=Tryz.sizeOf321
 v53:=Tryz.zeroValue321
 t171:=Tryz.underlying336
 a171:=Tryz.isAgg336
 z171:=Tryz.sizeOf336
 v171:=Tryz.zeroValue336
 t173:=Tryz.underlying338
 a173:=Tryz.isAgg338
 z173:=Tryz.sizeOf338
 v173:=Tryz.zeroValue338
 t212:=Tryz.underlying369
 a212:=Tryz.isAgg369
 z212:=Tryz.sizeOf369
 v212:=Tryz.zeroValue369
 t213:=Tryz.underlying370
 a213:=Tryz.isAgg370
 z213:=Tryz.sizeOf370
 t232:=Tryz.underlying392
 a232:=Tryz.isAgg392
 z232:=Tryz.sizeOf392
 v232:=Tryz.zeroValue392
 t233:=Tryz.underlying393
 a233:=Tryz.isAgg393
 z233:=Tryz.sizeOf393
 v233:=Tryz.zeroValue393
 g17:=by kernel_rfl
 g18:=by kernel_rfl
 g19:=by kernel_rfl
 i0:=by kernel_rfl
 i2:=by kernel_rfl
 i3:=by kernel_rfl
 i4:=by kernel_rfl
 i5:=by kernel_rfl
 i9:=by kernel_rfl
 i20:=by kernel_rfl
 i37:=by kernel_rfl
 i46:=by kernel_rfl
 i51:=by kernel_rfl
 i53:=by kernel_rfl
 i171:=by kernel_rfl
 i173:=by kernel_rfl
 i212:=by kernel_rfl
 i232:=by kernel_rfl
 i233:=by kernel_rfl
 m17:=by kernel_rfl
 m18:=by kernel_rfl
 m19:=by kernel_rfl}
open Go.RowKit Go.Sort Go.Lib in
theorem Tryz.strconv_Itoa (n : Int) (h0 : -9223372036854775808 ≤ n) (h1 : n ≤ 9223372036854775807) (w : World) (htab : Lib.TabIs Tryz.prog w "internal/strconv.uint64pow10" .u64 Lib.pow10Tab) :
  Calls Tryz.prog 27 #[.int .i64 n] w fun e w'=>e=.returned (.string ⟨(Lib.itoa n).toArray⟩)∧∃k os,w'=grow (w.drewN k) os:=Any.strconv_Itoa Tryz.laysM171 n h0 h1 w htab
def Tryz.lays189_ren:Go.Shelf.Ren:=⟨fun|189=>172|125=>141|257=>227|128=>190|129=>191|294=>253|295=>254|296=>255|297=>256|298=>257|299=>258|216=>204|300=>259|301=>260|328=>278|329=>233|330=>234|331=>279|332=>280|215=>142|343=>285|n=>n,fun|28=>55|3=>3|46=>257|0=>0|51=>319|53=>321|4=>4|183=>313|182=>312|131=>118|5=>5|9=>9|218=>353|222=>357|228=>384|229=>180|n=>n,fun|n=>n⟩
theorem Tryz.lays189:Go.Proofs.Lays.n189 Tryz.prog Tryz.lays189_ren:={
 mixed:=by kernel_rfl
 f125:=Tryz.func141.trans (congrArg some (by kernel_rfl))
 f128:=Tryz.func190.trans (congrArg some (by kernel_rfl))
 f129:=Tryz.func191.trans (congrArg some (by kernel_rfl))
 f189:=Tryz.func172.trans (congrArg some (by kernel_rfl))
 f215:=Tryz.func142.trans (congrArg some (by kernel_rfl))
 f216:=Tryz.func204.trans (congrArg some (by kernel_rfl))
 f257:=Tryz.func227.trans (congrArg some (by kernel_rfl))
 f294:=Tryz.func253.trans (congrArg some (by kernel_rfl))
 f295:=Tryz.func254.trans (congrArg some (by kernel_rfl))
 f296:=Tryz.func255.trans (congrArg some (by kernel_rfl))
 f297:=Tryz.func256.trans (congrArg some (by kernel_rfl))
 f298:=Tryz.func257.trans (congrArg some (by kernel_rfl))
 f299:=Tryz.func258.trans (congrArg some (by kernel_rfl))
 f300:=Tryz.func259.trans (congrArg some (by kernel_rfl))
 f301:=Tryz.func260.trans (congrArg some (by kernel_rfl))
 f328:=Tryz.func278.trans (congrArg some (by kernel_rfl))
 f329:=Tryz.func233.trans (congrArg some (by kernel_rfl))
 f330:=Tryz.func234.trans (congrArg some (by kernel_rfl))
 f331:=Tryz.func279.trans (congrArg some (by kernel_rfl))
 f332:=Tryz.func280.trans (congrArg some (by kernel_rfl))
 f343:=Tryz.func285.trans (congrArg some (by kernel_rfl))
 t0:=Tryz.underlying0
 a0:=Tryz.isAgg0
 z0:=Tryz.sizeOf0
 v0:=Tryz.zeroValue0
 t3:=Tryz.underlying3
 a3:=Tryz.isAgg3
 z3:=Tryz.sizeOf3
 v3:=Tryz.zeroValue3
 t4:=Tryz.underlying4
 a4:=Tryz.isAgg4
 z4:=Tryz.sizeOf4
 v4:=Tryz.zeroValue4
 t5:=Tryz.underlying5
 a5:=Tryz.isAgg5
 z5:=Tryz.sizeOf5
 v5:=Tryz.zeroValue5
 t9:=Tryz.underlying9
 a9:=Tryz.isAgg9
 z9:=Tryz.sizeOf9
 v9:=Tryz.zeroValue9
 t28:=Tryz.underlying55
 a28:=Tryz.isAgg55
 z28:=Tryz.sizeOf55
 v28:=Tryz.zeroValue55
 t46:=Tryz.underlying257
 a46:=Tryz.isAgg257
 z46:=Tryz.sizeOf257
 v46:=Tryz.zeroValue257
 t51:=Tryz.underlying319
 a51:=Tryz.isAgg319
 z51:=Tryz.sizeOf319
 v51:=Tryz.zeroValue319
 t53:=Tryz.underlying321
 a53:=Tryz.isAgg321
 z53:=Tryz.sizeOf321
 v53:=Tryz.zeroValue321
 t131:=Tryz.underlying118
 a131:=Tryz.isAgg118
 z131:=Tryz.sizeOf118
 v131:=Tryz.zeroValue118
 t182:=Tryz.underlying312
 a182:=Tryz.isAgg312
 z182:=Tryz.sizeOf312
 v182:=Tryz.zeroValue312
 t183:=Tryz.underlying313
 a183:=Tryz.isAgg313
 z183:=Tryz.sizeOf313
 v183:=Tryz.zeroValue313
 t218:=Tryz.underlying353
 a218:=Tryz.isAgg353
 z218:=Tryz.sizeOf353
 v218:=Tryz.zeroValue353
 t222:=Tryz.underlying357
 a222:=Tryz.isAgg357
 z222:=Tryz.sizeOf357
 v222:=Tryz.zeroValue357
 t228:=Tryz.underlying384
 a228:=Tryz.isAgg384
 z228:=Tryz.sizeOf384
 v228:=Tryz.zeroValue384
 t229:=Tryz.underlying180
 a229:=Tryz.isAgg180
 z229:=Tryz.sizeOf180
 v229:=Tryz.zeroValue180}
open Go.Sort Go.RowKit in
theorem Tryz.slices_Sort_int (blk off cap:Nat) (zs:List Int) (w:World) (hH:Holds (Value.int .i64) w blk off zs.toArray) (hblk:blk<w.heap.size) (hsz:zs.length<4611686018427387904) :
  Calls Tryz.prog 172 #[.slice (some ⟨blk,off,none⟩) zs.length cap] w fun e w'=>
   e=.returned (.tuple #[])∧∃n os,w'=grow (putRow (Value.int .i64) (Sort.ahead w n) blk off (zs.mergeSort fun x y=>decide (x≤y)).toArray) os:=Any.slices_Sort_int Tryz.lays189 blk off cap zs w hH hblk hsz
end Go.Proofs
namespace Go.AI
def zdW (E:Env) (res:D) (Hr:Heap) (O':List Heap):Value→World→Prop:=fun v w'=>∃K' ρ',HInv E K' ρ' (Hr::O') w'∧RepD K' ρ' (shape (Hr::O')) v res
def argσ:Nat→List D→List (Nat×D)
 |_,[]=>[]
 |n,d::r=>(n,d)::argσ (n+1) r
theorem zg3:∀(l:List D) (n t:Nat),look (argσ n l) t=if n≤t then l[t-n]? else none
 |[],n,t=>by simp[argσ,look]
 |d::r,n,t=>by
  simp only[argσ,zac,zg3 r (n+1) t]
  by_cases h:n=t
  ·subst h;simp
  ·rw[if_neg h]
   by_cases h2:n+1≤t
   ·rw[if_pos h2,if_pos (by omega),show t-n=(t-(n+1))+1 by omega];simp
   ·rw[if_neg h2,if_neg (by omega)]
section
variable {P:Program} {T:TT} {f:FuncId} {fn:Func} {code:Code}
theorem za2 (stop:List Nat) (hT:TOk P T) (hf:P.funcs[f]? = some fn) (hb:fn.body=some code) (hcall:∀args w,(callFunc f args).run P w=.ok (.enter f args) w) {args:List D} {O O':List Heap} {res:D} {Hr:Heap} {n:Nat}
  (hn:fn.ntmps=n) (hlen:args.length≤n)
  (h:∀E,Rch {P:=P,T:=T,E:=E,f:=f,fn:=fn,post:=zdW E res Hr O',stop:=stop} [.code code] {σ:=argσ 0 (D.shifts 1 args),S:=[]::O,n:=n}):zao P f args O res Hr O':=by
 intro E K ρ w vs hw hrep;refine .inl ⟨hcall _ _,fun cs=>?_⟩
 let ρ1:Nat→Nat→Loc:=fun d n=>match d with
  |0=>⟨0,0,none⟩
  |d+1=>ρ d n
 have hI:HInv (.of K ρ w) K ρ1 ([]::O) w:=by
  refine⟨hw.holds,?_,?_,Nat.le_refl _,fun _ _ _=>rfl,?_,fun d=>rfl,K.le_refl,fun _ _ _ h=>.inl h,⟨rfl,rfl,rfl⟩⟩
  ·intro d nm ob e
   cases d with
   |zero=>simp[zab,look] at e
   |succ d=>
    have e':zab O d nm=some ob:=by simpa [zab] using e
    have:=hw.own _ _ _ e';have e1:(fun d' n=>ρ1 (d+1+d') n)=fun d' n=>ρ (d+d') n:=by
     funext d' n;rw[show d+1+d'=(d+d')+1 by omega]
    rw[e1];simpa using this
  ·intro d nm ob d' nm' ob' e e' b b' hbe
   cases d with
   |zero=>simp[zab,look] at e
   |succ d=>
    cases d' with
    |zero=>simp[zab,look] at e'
    |succ d'=>
     have:=hw.inj d nm ob d' nm' ob' (by simpa [zab] using e) (by simpa [zab] using e') b b' hbe;exact⟨by omega,this.2⟩
  ·intro nm ob e _;simp[zab,look] at e
 have hvl:=hrep.length
 let b:Frame:={ (default:Frame) with fn:=f,kind:=.normal}
 have henter:Frame.enter P f vs.toArray .normal=b.at {tmps:=vs.toArray++Array.replicate (fn.ntmps-vs.toArray.size) undef,defers:=[]} [.code code]:=by
  simp[Frame.enter,Frame.at,hf,hb,b]
 have hinv:Inv (.of K ρ w) K ρ1 {σ:=argσ 0 (D.shifts 1 args),S:=[]::O,n:=n} {tmps:=vs.toArray++Array.replicate (fn.ntmps-vs.toArray.size) undef,defers:=[]} w:=by
  refine⟨hI,rfl,by simp;omega,fun t d e=>?_⟩;rw[zg3] at e;simp only[Nat.zero_le,if_true,Nat.sub_zero] at e;have hsh:RepDL K ρ1 (shape ([]::O)) vs (D.shifts 1 args):=by
   refine RepDL.shift (ρ:=ρ1) (sh:=shape ([]::O)) 1 ?_;have e1:(fun d n=>ρ1 (1+d) n)=ρ:=by funext d n;rw[Nat.add_comm]
   have e2:(fun d n=>shape ([]::O) (1+d) n)=shape O:=by
    funext d n;rw[Nat.add_comm];simp[shape,zab]
   rw[e1,e2];exact hrep
  obtain⟨y,hy,hr⟩:=hsh.get e;have:(vs.toArray++Array.replicate (fn.ntmps-vs.toArray.size) undef).getD t undef=y:=by
   have hlt:t<vs.length:=(List.getElem?_eq_some_iff.1 hy).1;simp only[Array.getD_eq_getD_getElem?];rw[Array.getElem?_append_left (by simpa using hlt)];simp[hy]
  rw[this];exact hr
 obtain⟨v,w',fr,hp,hst,hfr,hlv⟩:=h (.of K ρ w) K ρ1 _ w b cs hinv rfl rfl;rw[←henter] at hst;exact⟨.returned v,w',fr,⟨v,rfl,hp⟩,hst,hfr,hlv⟩
theorem zaa (hT:TOk P T) (hf:P.funcs[f]? = some fn) (hb:fn.body=some code) (hcall:∀args w,(callFunc f args).run P w=.ok (.enter f args) w) {args:List D} {O O':List Heap} {res:D} {Hr:Heap} {n:Nat}
  (hn:fn.ntmps=n) (hlen:args.length≤n)
  (h:∀E,Rch {P:=P,T:=T,E:=E,f:=f,fn:=fn,post:=zdW E res Hr O' } [.code code] {σ:=argσ 0 (D.shifts 1 args),S:=[]::O,n:=n}):zao P f args O res Hr O':=za2 [] hT hf hb hcall hn hlen h
def znk (T:TT) (s:St):ResultVar→Option D
 |.tmp t=>some (s.get t)
 |.cell x ty=>match zhp T s ty (s.get x) with
  |.val d=>some d
  |_=>none
def zgL (T:TT) (s:St):List ResultVar→Option (List D)
 |[]=>some []
 |r::l=>match znk T s r,zgL T s l with
  |some d,some ds=>some (d::ds)
  |_,_=>none
def resD (T:TT) (s:St) (l:List ResultVar):Option D:=match zgL T s l with
 |some [d]=>some d
 |some ds=>some (.tup ds)
 |none=>none
def rvOf (tmps:Array Value):ResultVar→Sem Value
 |.tmp t=>pure (tmps.getD t undef)
 |.cell x t=>do loadVar t (←asAddr (tmps.getD x undef))
theorem zpF (fn:Func) (tmps:Array Value):results fn tmps=(do let vs ←fn.results.mapM (rvOf tmps);pure (if h:vs.size=1 then vs[0] else .tuple vs)):=rfl
theorem mapM_cons (g:ResultVar→Sem Value) (r:ResultVar) (l:List ResultVar) {v:Value} {vs:List Value} {w:World} (h1:(g r).run P w=.ok v w) (h2:(l.mapM g).run P w=.ok vs w):((r::l).mapM g).run P w=.ok (v::vs) w:=by
 simp only[List.mapM_cons,Sem.run_bind,h1,h2,Result.andThen_ok,Sem.run_pure]
theorem zjL (hT:TOk P T) {E:Env} {K:Kn} {ρ:Nat→Nat→Loc} {s:St} {a:Act} {w:World} (hi:Inv E K ρ s a w):∀(l:List ResultVar) {ds:List D},zgL T s l=some ds →
  ∃vs,(l.mapM (rvOf a.tmps)).run P w=.ok vs w∧RepDL K ρ (shape s.S) vs ds
 |[],ds,h=>by
  simp only[zgL,Option.some.injEq] at h;subst h;exact⟨[],by simp,.nil⟩
 |r::l,ds,h=>by
  simp only[zgL] at h
  cases h1:znk T s r with
  |none=>simp[h1] at h
  |some d=>
   cases h2:zgL T s l with
   |none=>simp[h1,h2] at h
   |some ds'=>
    simp only[h1,h2,Option.some.injEq] at h;subst h;obtain⟨vs,hv,hr⟩:=zjL hT hi l h2
    cases r with
    |tmp t=>
     simp only[znk,Option.some.injEq] at h1;subst h1;exact⟨_::vs,mapM_cons _ _ _ rfl hv,.cons (hi.get t) hr⟩
    |cell x ty=>
     simp only[znk] at h1
     split at h1
     ·rename_i d' hd;simp only[Option.some.injEq] at h1;subst h1;have hl:=znd (dst:=0) hT hi.h (t:=ty) (hi.get x);rw[hd] at hl;obtain⟨v,hrun,hrep⟩:=hl;have hld:(rvOf a.tmps (.cell x ty)).run P w=.ok v w:=by
       unfold rvOf
       cases hx:a.tmps.getD x undef with
       |pointer p=>
        cases p with
        |none=>rw[hx] at hrun;simp[Instr.loadAt,Instr.sureAddr] at hrun
        |some p=>
         rw[hx] at hrun;simp only[Instr.loadAt,Instr.sureAddr,Sem.run_bind,Sem.run_pure,Result.andThen_ok] at hrun;simp only[Sem.run_bind,hx,asAddr,Sem.run_pure,Result.andThen_ok];exact hrun
       |_=>rw[hx] at hrun;simp[Instr.loadAt,Instr.sureAddr] at hrun
      exact⟨v::vs,mapM_cons _ _ _ hld hv,.cons hrep hr⟩
     ·cases h1
theorem zpE (hT:TOk P T) {E:Env} {K:Kn} {ρ:Nat→Nat→Loc} {s:St} {a:Act} {w:World} (hi:Inv E K ρ s a w) {d:D} (h:resD T s fn.results.toList=some d) :
  ∃v,(results fn a.tmps).run P w=.ok v w∧RepD K ρ (shape s.S) v d:=by
 unfold resD at h;have key:∀ds,zgL T s fn.results.toList=some ds→∃vs:List Value,RepDL K ρ (shape s.S) vs ds∧(results fn a.tmps).run P w=.ok (if h:vs.toArray.size=1 then vs.toArray[0] else .tuple vs.toArray) w:=by
  intro ds hds;obtain⟨vs,hv,hr⟩:=zjL (P:=P) (w:=w) hT hi _ hds;refine⟨vs,hr,?_⟩;rw[zpF,Array.mapM_eq_mapM_toList];simp only[Sem.run_bind,Sem.run_map,hv,Result.andThen_ok,Sem.run_pure]
 split at h
 ·rename_i d' hds;simp only[Option.some.injEq] at h;subst h;obtain⟨vs,hr,hrun⟩:=key _ hds
  cases hr with
  |cons r rs=>
   cases rs with
   |nil=>exact⟨_,hrun,r⟩
 ·rename_i ds hne hds;simp only[Option.some.injEq] at h;subst h;obtain⟨vs,hr,hrun⟩:=key _ hds;refine⟨_,hrun,?_⟩;have hlen:=hr.length;rw[dif_neg]
  ·exact .tup hr
  ·intro h1;have h2:ds.length=1:=by rw[←hlen];simpa using h1
   obtain⟨d',rfl⟩:=List.length_eq_one_iff.1 h2;exact hne d' rfl
 ·cases h
def zfQ (H Hr:Heap) (l:Heap):Prop:=match l with
 |[]=>True
 |(n,ob)::r=>(∃o0,look H n=some o0∧ob=o0.ret H Hr)∧zfQ H Hr r
theorem znb {H Hr:Heap}:∀{l:Heap},zfQ H Hr l→∀nm ob,look l nm=some ob→∃o0,look H nm=some o0∧ob=o0.ret H Hr
 |[],_,nm,ob,e=>by simp[look] at e
 |(n,o)::r,h,nm,ob,e=>by
  rw[zac] at e
  split at e
  ·rename_i hn;subst hn;simp only[Option.some.injEq] at e;subst e;exact h.1
  ·exact znb h.2 nm ob e
theorem zyO {c:Cx} (hT:TOk c.P c.T) {s:St} {res d:D} {Hr H:Heap} {O O':List Heap} (hd:resD c.T s c.fn.results.toList=some d) (hS:s.S=H::O) (ht:zfQ H Hr Hr) (hr:d.ret H Hr=res) (hO:O=O')
  (hp:c.post=zdW c.E res Hr O'):MSx c (.ret s):=by
 intro K ρ a w hi;obtain⟨v,hrun,hrep⟩:=zpE (fn:=c.fn) hT hi hd;refine⟨v,hrun,?_⟩;rw[hp];have hh:=hi.h;rw[hS] at hh hrep;subst hO;have htk:zjp H Hr:=znb ht;exact⟨_,ρ,hh.leave htk,by rw[←hr];exact zxb hh htk hrep⟩
def Sub (s:St):List (Nat×D)→Prop
 |[]=>True
 |(t,d)::r=>s.get t=d∧Sub s r
def SubH (H:Heap):Heap→Prop
 |[]=>True
 |(n,o)::r=>look H n=some o∧SubH H r
theorem zrg {s:St}:∀{l:List (Nat×D)},Sub s l→∀t d,look l t=some d→s.get t=d
 |[],_,t,d,e=>by simp[look] at e
 |(k,x)::r,h,t,d,e=>by
  rw[zac] at e
  split at e
  ·rename_i hk;subst hk;simp only[Option.some.injEq] at e;subst e;exact h.1
  ·exact zrg h.2 t d e
theorem zc6 {c:Cx} {todo:List Item} {s:St} {l:List (Nat×D)} (h:Rch c todo {σ:=l,S:=s.S,n:=s.n}) (hs:Sub s l):Rch c todo s:=by
 intro K ρ a w b cs hi hb hk;refine h K ρ a w b cs ⟨hi.h,hi.defers,hi.size,fun t d e=>?_⟩ hb hk;have:=hi.get t;rwa [zrg hs t d e] at this
end
def has (H:Heap) (nm:Nat):Bool:=match look H nm with
 |some _=>true
 |none=>false
theorem zdQ {H:Heap} {nm:Nat}:has H nm=true↔∃ob,look H nm=some ob:=by
 unfold has
 cases look H nm<;>simp
mutual
def D.within (p:Nat→Bool):D→Bool
 |.own 0 nm _ _=>p nm
 |.osl 0 nm=>p nm
 |.psl nm _=>p nm
 |.agg cs=>D.withins p cs
 |.tup cs=>D.withins p cs
 |.fn _ a b=>D.withins p a&&D.withins p b
 |_=>true
def D.withins (p:Nat→Bool):List D→Bool
 |[]=>true
 |d::r=>d.within p&&D.withins p r
end
def Ob.within (p:Nat→Bool):Ob→Bool
 |.box cs=>D.withins p cs
 |.tb _ cs=>D.withins p cs
 |.arr _ _ _ _ _=>true
 |.mp _ _=>true
section
variable {K K':Kn} {ρ ρ':Nat→Nat→Loc} {sh sh':Nat→Nat→Option Sh} {p:Nat→Bool}
structure Moves (p:Nat→Bool) (K K':Kn) (ρ ρ':Nat→Nat→Loc) (sh sh':Nat→Nat→Option Sh):Prop where
 le:K.le K'
 z:∀nm x,p nm=true→sh 0 nm=some x→sh' 0 nm=some x∧ρ' 0 nm=ρ 0 nm
 s:∀d nm x,sh (d+1) nm=some x→sh' (d+1) nm=some x∧ρ' (d+1) nm=ρ (d+1) nm
mutual
theorem RepD.move (h:Moves p K K' ρ ρ' sh sh'):∀{v:Value} {d:D},RepD K ρ sh v d→d.within p=true→RepD K' ρ' sh' v d
 |_,_,.dead x,_=>.dead x
 |_,_,.i r,_=>.i (r.mono h.le)
 |_,_,.agg r,e=>.agg (RepDL.move h r (by simpa [D.within] using e))
 |_,_,.tup r,e=>.tup (RepDL.move h r (by simpa [D.within] using e))
 |_,_,.box (dep:=dep) e,hp=>by
  cases dep with
  |zero=>obtain⟨h1,h2⟩:=h.z _ _ (by simpa [D.within] using hp) e;rw[←h2];exact .box h1
  |succ dep=>obtain⟨h1,h2⟩:=h.s _ _ _ e;rw[←h2];exact .box h1
 |_,_,.arr (dep:=dep) e l,hp=>by
  cases dep with
  |zero=>obtain⟨h1,h2⟩:=h.z _ _ (by simpa [D.within] using hp) e;rw[←h2];exact .arr h1 l
  |succ dep=>obtain⟨h1,h2⟩:=h.s _ _ _ e;rw[←h2];exact .arr h1 l
 |_,_,.osl (dep:=dep) e,hp=>by
  cases dep with
  |zero=>obtain⟨h1,h2⟩:=h.z _ _ (by simpa [D.within] using hp) e;rw[←h2];exact .osl h1
  |succ dep=>obtain⟨h1,h2⟩:=h.s _ _ _ e;rw[←h2];exact .osl h1
 |_,_,.omp (dep:=dep) e,hp=>by
  cases dep with
  |zero=>obtain⟨h1,h2⟩:=h.z _ _ (by simpa [D.within] using hp) e;rw[←h2];exact .omp h1
  |succ dep=>obtain⟨h1,h2⟩:=h.s _ _ _ e;rw[←h2];exact .omp h1
 |_,_,.psl e l,hp=>by obtain⟨h1,h2⟩:=h.z _ _ (by simpa [D.within] using hp) e;rw[←h2];exact .psl h1 l
 |_,_,.xsl r e k l,_=>.xsl (r.mono h.le) e (fun j c hc=>h.le _ _ _ (k j c hc)) l
 |_,_,.xnil,_=>.xnil
 |_,_,.bt,_=>.bt
 |_,_,.bf,_=>.bf
 |_,_,.fn r s,e=>by
  simp only[D.within,Bool.and_eq_true] at e;exact .fn (RepDL.move h r e.1) (RepDL.move h s e.2)
theorem RepDL.move (h:Moves p K K' ρ ρ' sh sh'):∀{v:List Value} {d:List D},RepDL K ρ sh v d→D.withins p d=true→RepDL K' ρ' sh' v d
 |_,_,.nil,_=>.nil
 |_,_,.cons r rs,e=>by
  simp only[D.withins,Bool.and_eq_true] at e;exact .cons (RepD.move h r e.1) (RepDL.move h rs e.2)
end
theorem OwnAt.move {w w':World} {l:Loc} {ob:Ob} (h:OwnAt K ρ sh w l ob) (hs:Moves p K K' ρ ρ' sh sh') (hp:ob.within p=true) (hw:zaD l ob→w'.heap[l.block]? = w.heap[l.block]?) (hK:zaD l ob→∀o,K' l.block o=K l.block o) :
  OwnAt K' ρ' sh' w' l ob:=by
 cases ob with
 |mp kk m=>
  obtain⟨⟨es,ck,h1,h2⟩,h3⟩:=h;exact⟨⟨es,ck,by rw[hw trivial];exact h1,h2⟩,fun o=>by rw[hK trivial];exact h3 o⟩
 |box cs=>
  obtain⟨c,T,h1,h2,h3⟩:=h;exact⟨c,T,by rw[hw trivial];exact h1,h2.move hs hp,fun o=>by rw[hK trivial];exact h3 o⟩
 |tb T cs=>
  obtain⟨c,h1,h2,h3⟩:=h;exact⟨c,by rw[hw trivial];exact h1,h2.move hs hp,fun o=>by rw[hK trivial];exact h3 o⟩
 |arr ty es n xs wr=>
  obtain⟨h1,h2,h2',h2'',h3⟩:=h;refine⟨h1,h2,h2',h2'',?_⟩
  by_cases hc:l.base=none
  ·rcases h3 with h3|⟨h4,_⟩
   ·exact .inl h3
   ·rw[hc] at h4;cases h4
  ·rcases h3 with ⟨_,h3⟩|⟨h4,c,h5,h6,h7,h8,h9,h10⟩
   ·exact absurd h3 hc
   ·refine .inr ⟨h4,c,by rw[hw hc];exact h5,h6,h7.mono hs.le,fun e o=>by rw[hK hc];exact h8 e o,fun o ho=>by rw[hK hc];exact h9 o ho,fun e o ho=>by rw[hK hc];exact h10 e o ho⟩
end
section
variable {E:Env} {K:Kn} {ρ:Nat→Nat→Loc} {HL Hv:Heap} {O:List Heap} {w:World}
def zzj (ρ:Nat→Nat→Loc) (HL Hv:Heap) (b:Nat):Prop:=∃nm ob,look HL nm=some ob∧look Hv nm=none∧zaD (ρ 0 nm) ob∧(ρ 0 nm).block=b
def fr (h:HInv E K ρ (HL::O) w) (Hv:Heap):Env where
 K0:=K
 ρ0:=E.ρ0
 w0:=w
 pr:=fun b=>E.pr b∨zzj ρ HL Hv b
 lt:=by
  rintro b (hb|⟨nm,ob,h1,_,h2,rfl⟩)
  ·exact Nat.lt_of_lt_of_le (E.lt b hb) h.size
  ·exact (h.own 0 nm ob (by simpa [zab] using h1)).lt h2
theorem zd1 (hv:∀nm ob,look Hv nm=some ob→look HL nm=some ob):Moves (has Hv) K K ρ ρ (shape (HL::O)) (shape (Hv::O)):=by
 refine⟨K.le_refl,fun nm x hp e=>⟨?_,rfl⟩,fun d nm x e=>⟨by simpa [shape,zab] using e,rfl⟩⟩;obtain⟨ob,h1⟩:=zdQ.1 hp;have h2:=hv _ _ h1;simp only[shape,zab,List.getElem?_cons_zero,h2] at e;simpa [shape,zab,h1] using e
theorem HInv.part (h:HInv E K ρ (HL::O) w) (hv:∀nm ob,look Hv nm=some ob→look HL nm=some ob) (hin:∀nm ob,look Hv nm=some ob→ob.within (has Hv)=true):HInv (fr h Hv) K ρ (Hv::O) w:=by
 have hob:∀d nm ob,zab (Hv::O) d nm=some ob→zab (HL::O) d nm=some ob:=by
  intro d nm ob e
  cases d with
  |zero=>simpa [zab] using hv nm ob (by simpa [zab] using e)
  |succ d=>simpa [zab] using e
 refine⟨h.holds,?_,fun _ _ _ _ _ _ a b=>h.inj _ _ _ _ _ _ (hob _ _ _ a) (hob _ _ _ b),Nat.le_refl _,fun _ _ _=>rfl,?_,h.outer,K.le_refl,fun _ _ _ e=>.inl e,⟨rfl,rfl,rfl⟩⟩
 ·intro d nm ob e;have h0:=h.own _ _ _ (hob _ _ _ e)
  cases d with
  |zero=>
   have e':look Hv nm=some ob:=by simpa [zab] using e
   have hm:=zd1 (K:=K) (ρ:=fun d n=>ρ (0+d) n) (O:=O) hv;exact h0.move hm (hin _ _ e') (fun _=>rfl) (fun _ _=>rfl)
  |succ d=>simpa using h0
 ·rintro nm ob e hb (hp|⟨n2,o2,h1,h2,h3,h4⟩)
  ·exact h.loc _ _ (hob _ _ _ e) hb hp
  ·have:=(h.inj 0 n2 o2 0 nm ob (by simpa [zab] using h1) (hob _ _ _ e) h3 hb h4).2;subst this;have e':look Hv n2=some ob:=by simpa [zab] using e
   rw[h2] at e'
   cases e'
def Joins (HL Hv Hv' Hn:Heap):Prop:=∀nm,look Hn nm=match look Hv' nm with
 |some ob=>some ob
 |none=>match look Hv nm with
  |some _=>none
  |none=>look HL nm
def butG (g:Option Nat) (nm:Nat):Bool:=match g with
 |none=>true
 |some x=>!Nat.beq x nm
theorem zyc {g:Option Nat} {nm:Nat} (h:butG g nm=true):g≠some nm:=by
 cases g with
 |none=>simp
 |some x=>
  intro e;simp only[Option.some.injEq] at e;subst e;simp[butG] at h
theorem HInv.join {K':Kn} {ρ':Nat→Nat→Loc} {Hv' Hn:Heap} {w':World} {g:Option Nat} (h:HInv E K ρ (HL::O) w) (h':HInv (fr h Hv) K' ρ' (Hv'::O) w') (hv:∀nm ob,look Hv nm=some ob→look HL nm=some ob)
  (hk:zt9 g ρ ρ' (shape (Hv::O)) (shape (Hv'::O))) (hfr:∀nm,has Hv' nm=true→has HL nm=true→has Hv nm=true) (hin:∀nm ob,look HL nm=some ob→look Hv nm=none→ob.within (butG g)=true) (hj:Joins HL Hv Hv' Hn) :
  ∃ρ'',HInv E K' ρ'' (Hn::O) w'∧Moves (butG g) K K' ρ ρ'' (shape (HL::O)) (shape (Hn::O))∧Stays K' K' ρ' ρ'' (shape (Hv'::O)) (shape (Hn::O)):=by
 let ρ'':Nat→Nat→Loc:=fun d n=>match d with
  |0=>match look Hv' n with
   |some _=>ρ' 0 n
   |none=>ρ 0 n
  |d+1=>ρ' (d+1) n
 have hout:∀d n,ρ' (d+1) n=ρ (d+1) n:=fun d n=>by rw[h'.outer,h.outer];rfl
 have r0:∀n ob,look Hv' n=some ob→ρ'' 0 n=ρ' 0 n:=by intro n ob e;simp only[ρ'',e]
 have r1:∀n,look Hv' n=none→ρ'' 0 n=ρ 0 n:=by intro n e;simp only[ρ'',e]
 have r2:∀d n,ρ'' (d+1) n=ρ (d+1) n:=by intro d n;simp only[ρ'',hout]
 have hst:Stays K' K' ρ' ρ'' (shape (Hv'::O)) (shape (Hn::O)):=by
  refine⟨K'.le_refl,fun d n x e=>?_,fun d n x e=>?_⟩
  ·cases d with
   |zero=>
    cases hl:look Hv' n with
    |none=>simp[shape,zab,hl] at e
    |some ob=>
     have:=hj n;rw[hl] at this;simpa [shape,zab,hl,this] using e
   |succ d=>simpa [shape,zab] using e
  ·cases d with
   |zero=>
    cases hl:look Hv' n with
    |none=>simp[shape,zab,hl] at e
    |some ob=>exact r0 _ _ hl
   |succ d=>rfl
 have hmv:Moves (butG g) K K' ρ ρ'' (shape (HL::O)) (shape (Hn::O)):=by
  refine⟨h'.Kle,fun nm x hp e=>?_,fun d nm x e=>⟨by simpa [shape,zab] using e,r2 _ _⟩⟩;have hp2:=zyc hp;have hp1:has HL nm=true:=by
   cases hx:look HL nm with
   |none=>simp[shape,zab,hx] at e
   |some ob=>exact zdQ.2 ⟨_,hx⟩
  cases hl:look Hv nm with
  |some ob=>
   have e1:shape (Hv::O) 0 nm=some x:=by
    have:=hv _ _ hl;simp only[shape,zab,List.getElem?_cons_zero,this] at e;simpa [shape,zab,hl] using e
   obtain⟨a1,a2⟩:=hk 0 nm x (.inr hp2) e1;refine⟨hst.shp _ _ _ a1,?_⟩;rw[hst.loc _ _ _ a1,a2]
  |none=>
   have h1:look Hv' nm=none:=by
    cases hc:look Hv' nm with
    |none=>rfl
    |some ob=>
     have:=hfr nm (zdQ.2 ⟨_,hc⟩) hp1;obtain⟨_,h2⟩:=zdQ.1 this;rw[hl] at h2;cases h2
   have:=hj nm;rw[h1,hl] at this;refine⟨?_,r1 _ h1⟩;simp only[shape,zab,List.getElem?_cons_zero] at e ⊢;rw[this];exact e
 have hrest:∀b,zzj ρ HL Hv b→w'.heap[b]? = w.heap[b]? ∧ ∀o,K' b o=K b o:=by
  intro b hb;obtain⟨nm,ob,h1,h2,h3,h4⟩:=id hb;refine⟨?_,fun o=>?_⟩
  ·refine h'.old b (.inr hb) fun d n o2 e hbk hbe=>?_;have e1:zab (HL::O) (d+1) n=some o2:=by simpa [zab] using e
   rw[hout] at hbk hbe;have:=(h.inj 0 nm ob (d+1) n o2 (by simpa [zab] using h1) e1 h3 hbk (by rw[h4,hbe])).1;omega
  ·cases hK:K' b o with
   |some x=>
    rcases h'.Knew _ _ _ hK with h5|h5
    ·exact h5.symm
    ·exact absurd (Or.inr hb) h5
   |none=>
    cases hK2:K b o with
    |none=>rfl
    |some x=>have:=h'.Kle _ _ _ hK2;rw[hK] at this;cases this
 have hcase:∀n ob,look Hn n=some ob→(look Hv' n=some ob∧ρ'' 0 n=ρ' 0 n)∨(look Hv' n=none∧look Hv n=none∧look HL n=some ob∧ρ'' 0 n=ρ 0 n):=by
  intro n ob e;rw[hj n] at e
  cases h1:look Hv' n with
  |some o1=>
   rw[h1] at e;exact .inl ⟨e,r0 _ _ h1⟩
  |none=>
   rw[h1] at e
   cases h2:look Hv n with
   |some _=>rw[h2] at e;cases e
   |none=>
    rw[h2] at e;exact .inr ⟨rfl,rfl,e,r1 _ h1⟩
 refine⟨ρ'',⟨h'.holds,?_,?_,Nat.le_trans h.size h'.size,?_,?_,?_,fun b o x e=>h'.Kle _ _ _ (h.Kle _ _ _ e),?_,?_⟩,hmv,hst⟩
 ·intro d n ob e
  cases d with
  |zero=>
   have e':look Hn n=some ob:=by simpa [zab] using e
   have e0:(fun d n=>ρ'' (0+d) n)=ρ'':=by funext d n;rw[Nat.zero_add]
   rw[e0];rcases hcase n ob e' with ⟨h1,h2⟩|⟨h1,h2,h3,h4⟩
   ·rw[h2];have h0:=h'.own 0 n ob (by simpa [zab] using h1);have e1:(fun d n=>ρ' (0+d) n)=ρ':=by funext d n;rw[Nat.zero_add]
    rw[e1] at h0;exact h0.stays hst (fun _=>rfl) (fun _ _=>rfl)
   ·rw[h4];have h0:=h.own 0 n ob (by simpa [zab] using h3);have e1:(fun d n=>ρ (0+d) n)=ρ:=by funext d n;rw[Nat.zero_add]
    rw[e1] at h0;refine h0.move hmv (hin _ _ h3 h2) (fun hb=>?_) (fun hb=>?_)
    ·exact (hrest _ ⟨n,ob,h3,h2,hb,rfl⟩).1
    ·exact (hrest _ ⟨n,ob,h3,h2,hb,rfl⟩).2
  |succ d=>
   have h0:=h'.own (d+1) n ob (by simpa [zab] using e);have e1:(fun d' n=>ρ'' (d+1+d') n)=fun d' n=>ρ' (d+1+d') n:=by
    funext d' n;rw[show d+1+d'=(d+d')+1 by omega]
   rw[e1,r2,←hout];simpa using h0
 ·intro d n ob d' n' ob' e e' b b' hbe
  cases d with
  |zero=>
   cases d' with
   |zero=>
    refine⟨rfl,?_⟩;rcases hcase n ob (by simpa [zab] using e) with ⟨h1,h2⟩|⟨h1,h2,h3,h4⟩<;>rcases hcase n' ob' (by simpa [zab] using e') with ⟨k1,k2⟩|⟨k1,k2,k3,k4⟩
    ·rw[h2] at b hbe;rw[k2] at b' hbe;exact (h'.inj 0 n ob 0 n' ob' (by simpa [zab] using h1) (by simpa [zab] using k1) b b' hbe).2
    ·rw[h2] at b hbe;rw[k4] at b' hbe;exact absurd (Or.inr ⟨n',ob',k3,k2,b',hbe.symm⟩) (h'.loc n ob (by simpa [zab] using h1) b)
    ·rw[h4] at b hbe;rw[k2] at b' hbe;exact absurd (Or.inr ⟨n,ob,h3,h2,b,hbe⟩) (h'.loc n' ob' (by simpa [zab] using k1) b')
    ·rw[h4] at b hbe;rw[k4] at b' hbe;exact (h.inj 0 n ob 0 n' ob' (by simpa [zab] using h3) (by simpa [zab] using k3) b b' hbe).2
   |succ d'=>
    exfalso;have e2:zab (HL::O) (d'+1) n'=some ob':=by simpa [zab] using e'
    have e3:zab (Hv'::O) (d'+1) n'=some ob':=by simpa [zab] using e'
    rcases hcase n ob (by simpa [zab] using e) with ⟨h1,h2⟩|⟨h1,h2,h3,h4⟩
    ·rw[h2] at b hbe;rw[r2,←hout] at b' hbe;have:=(h'.inj 0 n ob (d'+1) n' ob' (by simpa [zab] using h1) e3 b b' hbe).1;omega
    ·rw[h4] at b hbe;rw[r2] at b' hbe;have:=(h.inj 0 n ob (d'+1) n' ob' (by simpa [zab] using h3) e2 b b' hbe).1;omega
  |succ d=>
   have e2:zab (HL::O) (d+1) n=some ob:=by simpa [zab] using e
   have e3:zab (Hv'::O) (d+1) n=some ob:=by simpa [zab] using e
   cases d' with
   |zero=>
    exfalso;rcases hcase n' ob' (by simpa [zab] using e') with ⟨h1,h2⟩|⟨h1,h2,h3,h4⟩
    ·rw[h2] at b' hbe;rw[r2,←hout] at b hbe;have:=(h'.inj (d+1) n ob 0 n' ob' e3 (by simpa [zab] using h1) b b' hbe).1;omega
    ·rw[h4] at b' hbe;rw[r2] at b hbe;have:=(h.inj (d+1) n ob 0 n' ob' e2 (by simpa [zab] using h3) b b' hbe).1;omega
   |succ d'=>
    rw[r2] at b b' hbe;rw[r2] at hbe;exact h.inj _ _ _ _ _ _ e2 (by simpa [zab] using e') b b' hbe
 ·intro b hb hno;have h1:=h'.old b (.inl hb) (by
   intro d n ob e hbk;have:=hno d n ob (by simpa [zab] using e) (by rw[r2,←hout];exact hbk);rw[r2,←hout] at this;exact this)
  rw[h1];show w.heap[b]? = _;refine h.old b hb fun d n ob e hbk=>?_;have:=hno d n ob (by simpa [zab] using e) (by rw[r2];exact hbk);rwa [r2] at this
 ·intro n ob e b;rcases hcase n ob (by simpa [zab] using e) with ⟨h1,h2⟩|⟨h1,h2,h3,h4⟩
  ·rw[h2] at b ⊢;exact fun hp=>h'.loc n ob (by simpa [zab] using h1) b (.inl hp)
  ·rw[h4] at b ⊢;exact h.loc n ob (by simpa [zab] using h3) b
 ·intro d;funext n;rw[r2,h.outer]
 ·intro b o x e;rcases h'.Knew _ _ _ e with h1|h1
  ·exact h.Knew _ _ _ h1
  ·exact .inr fun hp=>h1 (.inl hp)
 ·obtain⟨a1,a2,a3⟩:=h'.rest;obtain⟨b1,b2,b3⟩:=h.rest;exact⟨a1.trans b1,a2.trans b2,a3.trans b3⟩
end
end Go.AI
namespace Go.AI
def bkS (l:Loc):Sh→Prop
 |.arr _ _=>l.base≠none
 |_=>True
theorem zjk {l:Loc} {ob:Ob}:zaD l ob↔bkS l ob.sh:=by cases ob<;>exact Iff.rfl
def TabQ (g:Nat) (tab:Obj) (O:List Heap) (ρ:Nat→Nat→Loc) (w:World):Prop:=
 w.heap[g]? = some tab∧∀d nm x,shape O d nm=some x→bkS (ρ d nm) x→(ρ d nm).block≠g
def TabE (g:Nat) (tab:Obj) (E:Env) (O:List Heap):Prop:=TabQ g tab O E.ρ0 E.w0∧E.pr g
theorem zre {g:Nat} {tab:Obj} {E:Env} {O O':List Heap} {K:Kn} {ρ:Nat→Nat→Loc} {H:Heap} {w:World} (h:TabE g tab E O) (hs:shape O'=shape O) (hi:HInv E K ρ (H::O') w):TabQ g tab (H::O') ρ w:=by
 obtain⟨⟨h1,h2⟩,h3⟩:=h;have hup:∀d nm ob,zab (H::O') (d+1) nm=some ob→zaD (ρ (d+1) nm) ob→(ρ (d+1) nm).block≠g:=by
  intro d nm ob ho hb;have hρ:ρ (d+1) nm=E.ρ0 d nm:=by rw[hi.outer]
  rw[hρ] at hb ⊢;refine h2 d nm ob.sh ?_ (zjk.1 hb);rw[←hs];have:zab O' d nm=some ob:=by simpa [zab] using ho
  simp[shape,this]
 refine⟨by rw[hi.old g h3 hup];exact h1,fun d nm x hx hb=>?_⟩;unfold shape at hx
 cases ho:zab (H::O') d nm with
 |none=>simp[ho] at hx
 |some ob=>
  simp only[ho,Option.map_some,Option.some.injEq] at hx;subst hx
  cases d with
  |zero=>exact fun e=>hi.loc nm ob ho (zjk.2 hb) (by rw[e];exact h3)
  |succ d=>exact hup d nm ob ho (zjk.2 hb)
structure EOk (E0 E:Env) (O:List Heap):Prop where
 tb:∀g tab O0,shape O=shape O0→TabE g tab E0 O0→TabE g tab E O0
 kn:E0.K0.le E.K0
theorem zy7 {E:Env} {K:Kn} {ρ:Nat→Nat→Loc} {HL:Heap} {O:List Heap} {w:World} (h:HInv E K ρ (HL::O) w) (Hv:Heap):EOk E (fr h Hv) O:=by
 refine⟨fun g tab O0 hO ht=>?_,h.Kle⟩;exact⟨⟨(zre ht hO h).1,ht.1.2⟩,.inl ht.2⟩
abbrev SH:=List (Nat×D)×Heap
def St.of (O:List Heap) (n:Nat) (x:SH):St:={ σ:=x.1,S:=x.2::O,n:=n}
structure Pl where
 sets:List (Nat×D)
 adds:Heap
 rem:Option Nat
def rmv1 (g:Nat):Heap→Heap
 |[]=>[]
 |(n,o)::r=>bif Nat.beq n g then rmv1 g r else (n,o)::rmv1 g r
def rmv (g:Option Nat) (H:Heap):Heap:=match g with
 |none=>H
 |some g=>rmv1 g H
theorem zg1 (g:Nat):∀(H:Heap) (n:Nat),look (rmv1 g H) n=if n=g then none else look H n
 |[],n=>by simp[rmv1,look]
 |(k,o)::r,n=>by
  simp only[rmv1]
  by_cases h:k=g
  ·subst h;simp only[Nat.beq_refl,cond_true,zg1 k r n,zac]
   by_cases hn:n=k
   ·subst hn;simp
   ·simp[hn,Ne.symm hn]
  ·have:Nat.beq k g=false:=by
    cases hb:Nat.beq k g with
    |false=>rfl
    |true=>exact absurd (Nat.eq_of_beq_eq_true hb) h
   rw[this,cond_false,zac,zac,zg1 g r n]
   by_cases hn:k=n
   ·subst hn;simp[h]
   ·simp[hn]
theorem ziW (g:Option Nat) (H:Heap) (n:Nat):look (rmv g H) n=if g=some n then none else look H n:=by
 cases g with
 |none=>simp[rmv]
 |some g=>
  simp only[rmv,zg1]
  by_cases h:n=g
  ·subst h;simp
  ·simp[h,Ne.symm h]
def Pl.ap (p:Pl) (x:SH):SH:=(p.sets++x.1,p.adds++rmv p.rem x.2)
def pl (ps:List Pl) (i:Nat):Pl:=match ps[i]? with
 |some p=>p
 |none=>⟨[],[],none⟩
def hasK {α:Type} (l:List (Nat×α)) (t:Nat):Bool:=match look l t with
 |some _=>true
 |none=>false
theorem zdv {α:Type} {l:List (Nat×α)} {t:Nat}:hasK l t=true↔∃x,look l t=some x:=by
 unfold hasK
 cases look l t<;>simp
theorem zec {α:Type} {l:List (Nat×α)} {t:Nat}:hasK l t=false↔look l t=none:=by
 unfold hasK
 cases look l t<;>simp
def wS (ps:List Pl) (t i:Nat):Bool:=hasK (pl ps i).sets t
def isG (g:Option Nat) (n:Nat):Bool:=match g with
 |none=>false
 |some x=>Nat.beq x n
theorem zld {g:Option Nat} {n:Nat}:isG g n=true↔g=some n:=by
 cases g with
 |none=>simp[isG]
 |some x=>simp[isG]
def wH (ps:List Pl) (n i:Nat):Bool:=hasK (pl ps i).adds n||isG (pl ps i).rem n
def fold (ps:List Pl) (l:List Nat) (x:SH):SH:=l.foldl (fun x i=>(pl ps i).ap x) x
section
variable {ps:List Pl}
theorem ap_S (p:Pl) (x:SH) (t:Nat):look (p.ap x).1 t=match look p.sets t with
  |some d=>some d
  |none=>look x.1 t:=by
 simp only[Pl.ap,zbY]
 cases look p.sets t<;>rfl
theorem ap_H (p:Pl) (x:SH) (n:Nat):look (p.ap x).2 n=match look p.adds n with
  |some d=>some d
  |none=>if p.rem=some n then none else look x.2 n:=by
 simp only[Pl.ap,zbY,ziW]
 cases look p.adds n<;>rfl
theorem zgn {t i:Nat} (h:wS ps t i=false) (x:SH):look ((pl ps i).ap x).1 t=look x.1 t:=by
 rw[ap_S,zec.1 h]
theorem zgo {t i:Nat} (h:wH ps t i=false) (x:SH):look ((pl ps i).ap x).2 t=look x.2 t:=by
 simp only[wH,Bool.or_eq_false_iff] at h;rw[ap_H,zec.1 h.1];have:¬(pl ps i).rem=some t:=fun e=>by rw[zld.2 e] at h;cases h.2
 simp[this]
theorem ztl {t i:Nat} (h:wS ps t i=true) (x y:SH):look ((pl ps i).ap x).1 t=look ((pl ps i).ap y).1 t:=by
 obtain⟨d,hd⟩:=zdv.1 h;rw[ap_S,ap_S,hd]
theorem ztm {t i:Nat} (h:wH ps t i=true) (x y:SH):look ((pl ps i).ap x).2 t=look ((pl ps i).ap y).2 t:=by
 rw[ap_H,ap_H]
 cases hl:look (pl ps i).adds t with
 |some d=>rfl
 |none=>
  have:(pl ps i).rem=some t:=by
   simp only[wH,zec.2 hl,Bool.false_or] at h;exact zld.1 h
  simp[this]
theorem zhm (l l':List Nat) (x:SH):fold ps (l++l') x=fold ps l' (fold ps l x):=List.foldl_append
theorem zgk {α:Type} (f:SH→α) (W:Nat→Bool) (h0:∀i x,W i=false→f ((pl ps i).ap x)=f x):∀(l:List Nat) (x:SH),(∀k∈l,W k=false)→f (fold ps l x)=f x
 |[],x,_=>rfl
 |i::l,x,h=>by
  have h1:=zgk f W h0 l ((pl ps i).ap x) fun k hk=>h k (by simp[hk]);have h2:=h0 i x (h i (by simp));rw[←h2,←h1];rfl
theorem zsK (W:Nat→Bool):∀l:List Nat,(∀k∈l,W k=false)∨∃i∈l,W i=true∧∀k∈l,W k=true→k≤i
 |[]=>.inl (by simp)
 |i::l=>by
  rcases zsK W l with h|⟨j,hj,hw,hl⟩
  ·cases hi:W i with
   |false=>
    refine .inl fun k hk=>?_;rcases List.mem_cons.1 hk with h'|h'
    ·rw[h'];exact hi
    ·exact h k h'
   |true=>
    refine .inr ⟨i,by simp,hi,fun k hk hw=>?_⟩;rcases List.mem_cons.1 hk with h'|h'
    ·rw[h'];exact Nat.le_refl _
    ·rw[h k h'] at hw;cases hw
  ·cases hi:W i with
   |false=>
    refine .inr ⟨j,by simp[hj],hw,fun k hk hw=>?_⟩;rcases List.mem_cons.1 hk with h'|h'
    ·rw[h',hi] at hw;cases hw
    ·exact hl k h' hw
   |true=>
    rcases Nat.le_total i j with h'|h'
    ·refine .inr ⟨j,by simp[hj],hw,fun k hk hw=>?_⟩;rcases List.mem_cons.1 hk with h''|h''
     ·rw[h''];exact h'
     ·exact hl k h'' hw
    ·refine .inr ⟨i,by simp,hi,fun k hk hw=>?_⟩;rcases List.mem_cons.1 hk with h''|h''
     ·rw[h''];exact Nat.le_refl _
     ·exact Nat.le_trans (hl k h'' hw) h'
theorem zfd {α:Type} (f:SH→α) (W:Nat→Bool) (h0:∀i x,W i=false→f ((pl ps i).ap x)=f x) (h1:∀i x y,W i=true→f ((pl ps i).ap x)=f ((pl ps i).ap y)) {l:List Nat} (hs:l.Pairwise (· < ·)) {i:Nat} (hi:i∈l)
  (hw:W i=true) (hl:∀k∈l,W k=true→k≤i) (x y:SH):f (fold ps l x)=f ((pl ps i).ap y):=by
 obtain⟨l1,l2,rfl⟩:=List.append_of_mem hi;rw[zhm];have hp:=(List.pairwise_append.1 hs).2.1;have hgt:∀k∈l2,i<k:=(List.pairwise_cons.1 hp).1;have:f (fold ps l2 ((pl ps i).ap (fold ps l1 x)))=f ((pl ps i).ap (fold ps l1 x)):=zgk f W h0 _ _ fun k hk=>by
  cases hc:W k with
  |false=>rfl
  |true=>
   have:=hl k (by simp[hk]) hc;have:=hgt k hk;omega
 exact this.trans (h1 i _ _ hw)
def ord (n:Nat) (m:Nat→Bool):List Nat:=(List.range n).filter m
theorem zd4 (n:Nat) (m:Nat→Bool):(ord n m).Pairwise (· < ·):=List.Pairwise.filter _ List.pairwise_lt_range
theorem zcw {n:Nat} {m:Nat→Bool} {k:Nat}:k∈ord n m↔k<n∧m k=true:=by simp[ord]
theorem zfb {α:Type} (f:SH→α) (W:Nat→Bool) (h0:∀i x,W i=false→f ((pl ps i).ap x)=f x) (h1:∀i x y,W i=true→f ((pl ps i).ap x)=f ((pl ps i).ap y)) {n:Nat} {m m':Nat→Bool} (h:∀k,k<n→W k=true→m k=m' k) (x:SH) :
  f (fold ps (ord n m) x)=f (fold ps (ord n m') x):=by
 rcases zsK W (ord n m) with hl|⟨i,hi,hw,hl⟩
 ·rw[zgk f W h0 _ _ hl,zgk f W h0];intro k hk;rw[zcw] at hk
  cases hc:W k with
  |false=>rfl
  |true=>
   have:=hl k (zcw.2 ⟨hk.1,by rw[h k hk.1 hc];exact hk.2⟩);rw[hc] at this;cases this
 ·rw[zfd f W h0 h1 (zd4 _ _) hi hw hl x x];rw[zcw] at hi;refine (zfd f W h0 h1 (zd4 _ _) (zcw.2 ⟨hi.1,by rw[←h i hi.1 hw];exact hi.2⟩) hw ?_ x x).symm;intro k hk hw';rw[zcw] at hk;exact hl k (zcw.2 ⟨hk.1,by rw[h k hk.1 hw'];exact hk.2⟩) hw'
theorem zcq {i:Nat}:∀{n:Nat},i≤n→ord n (fun k=>Nat.ble (k+1) i)=List.range i:=by
 intro n h
 induction n with
 |zero=>
  have:i=0:=by omega
  subst this;rfl
 |succ n ih=>
  simp only[ord,List.range_succ,List.filter_append] at ih ⊢
  by_cases hi:i=n+1
  ·subst hi;have e1:(List.range n).filter (fun k=>Nat.ble (k+1) (n+1))=List.range n:=by
    rw[List.filter_eq_self];intro k hk;rw[List.mem_range] at hk;exact Nat.ble_eq_true_of_le (by omega)
   rw[e1];have e2:Nat.ble (n+1) (n+1)=true:=Nat.ble_eq_true_of_le (Nat.le_refl _);simp[e2,List.range_succ]
  ·rw[ih (by omega)];have:Nat.ble (n+1) i=false:=by
    cases hb:Nat.ble (n+1) i with
    |false=>rfl
    |true=>have:=Nat.le_of_ble_eq_true hb;omega
   simp[this]
end
theorem zhY {H H':Heap} {O:List Heap} (h:∀nm,look H' nm=look H nm):zab (H'::O)=zab (H::O):=by
 funext d nm
 cases d with
 |zero=>simpa [zab] using h nm
 |succ d=>simp[zab]
theorem zd0 {H H':Heap} {O:List Heap} (h:∀nm,look H' nm=look H nm):shape (H'::O)=shape (H::O):=by
 funext d nm;simp only[shape,zhY h]
theorem HInv.same {E:Env} {K:Kn} {ρ:Nat→Nat→Loc} {H H':Heap} {O:List Heap} {w:World} (hi:HInv E K ρ (H::O) w) (h:∀nm,look H' nm=look H nm):HInv E K ρ (H'::O) w:=by
 have e:=zhY (O:=O) h;have e2:=zd0 (O:=O) h;refine⟨hi.holds,fun d nm ob h1=>?_,fun d nm ob d' nm' ob' h1 h2=>?_,hi.size,fun b hb hno=>hi.old b hb ?_,fun nm ob h1=>?_,hi.outer,hi.Kle,hi.Knew,hi.rest⟩
 ·rw[e] at h1;have h2:=hi.own _ _ _ h1;have e3:shape ((H'::O).drop d)=shape ((H::O).drop d):=by
   cases d with
   |zero=>simpa using e2
   |succ d=>simp
  rw[e3];exact h2
 ·rw[e] at h1 h2;exact hi.inj _ _ _ _ _ _ h1 h2
 ·intro d nm ob h1;exact hno d nm ob (by rw[e];exact h1)
 ·rw[e] at h1;exact hi.loc _ _ h1
def zc3 (c:Cx) (ops:Array Oper) (O:List Heap) (n:Nat) (o:Oper) (v:SH) (p:Pl):Prop:=
 (zaN ops (St.of O n v) o=some false∧∃t,o.dst=some t∧t<n∧p=⟨[(t,.tup [])],[],none⟩) ∨
 (zaN ops (St.of O n v) o=some true∧∀E,EOk c.E E O→∀K ρ a w,Inv E K ρ (St.of O n v) a w→∀(next:Act→World→Prop) (Qe:Exit→Act→World→Prop),
  (∀val w' σ' K' ρ',K.le K' → zt9 p.rem ρ ρ' (shape (v.2::O)) (shape ((p.adds++rmv p.rem v.2)::O))→Inv E K' ρ' {σ:=σ',S:=(p.adds++rmv p.rem v.2)::O,n:=n} (a.put o.dst val) w' →
   (∀t d,look p.sets t=some d→d=.dead∨look σ' t=some d)→next (a.put o.dst val) w')→o.wp c.P a w next Qe)
theorem zjP {a:Act} {dst:Option Nat} {v:Value} {t:Nat} (h:dst≠some t):(a.put dst v).tmps.getD t undef=a.tmps.getD t undef:=by
 cases dst with
 |none=>rfl
 |some d=>
  have hne:d≠t:=fun e=>h (by rw[e]);simp only[Act.put,Array.getD_eq_getD_getElem?];rw[Array.getElem?_setIfInBounds_ne hne]
theorem zuN (a:Act) (dst:Option Nat) (v:Value):(a.put dst v).tmps.size=a.tmps.size:=by
 cases dst<;>simp[Act.put]
theorem put_defers (a:Act) (dst:Option Nat) (v:Value):(a.put dst v).defers=a.defers:=by
 cases dst<;>simp[Act.put]
structure Fits (x v:SH) (o:Oper) (p:Pl):Prop where
 v1:∀t d,look v.1 t=some d→look x.1 t=some d
 v2:∀nm ob,look v.2 nm=some ob→look x.2 nm=some ob
 w1:∀t d,look v.1 t=some d→d.within (has v.2)=true
 w2:∀nm ob,look v.2 nm=some ob→ob.within (has v.2)=true
 dst:∀t,o.dst=some t→hasK p.sets t=true
 fresh:∀nm,hasK p.adds nm=true→has x.2 nm=true→has v.2 nm=true
 k1:∀t d,look x.1 t=some d→hasK p.sets t=false→d.within (butG p.rem)=true
 k2:∀nm ob,look x.2 nm=some ob→look v.2 nm=none→ob.within (butG p.rem)=true
 g:∀g,p.rem=some g→has v.2 g=true
theorem zft {c:Cx} {ops:Array Oper} {O:List Heap} {n i:Nat} {o:Oper} {v x y:SH} {p:Pl} (ho:ops[i]? = some o) (hs:zc3 c ops O n o v p) (hf:Fits x v o p)
  (hy1:∀t,look y.1 t=look (p.ap x).1 t) (hy2:∀nm,look y.2 nm=look (p.ap x).2 nm) {K:Kn} {ρ:Nat→Nat→Loc} {a:Act} {w:World} (hi:Inv c.E K ρ (St.of O n x) a w)
  {Q:Exit→Act→World→Prop} {next:Act→World→Prop} (hn:∀a' w' K' ρ',Inv c.E K' ρ' (St.of O n y) a' w' → next a' w'):wpOp c.P ops Q i next a w:=by
 have hh:HInv c.E K ρ (x.2::O) w:=hi.h;have hI:HInv (fr hh v.2) K ρ (v.2::O) w:=hh.part hf.v2 hf.w2;have hInv:Inv (fr hh v.2) K ρ (St.of O n v) a w:=⟨hI,hi.defers,hi.size,fun t d e=>(hi.slots t d (hf.v1 _ _ e)).move (zd1 hf.v2) (hf.w1 _ _ e)⟩;have hdst:∀t,look p.sets t=none→o.dst≠some t:=fun t e h=>by
  have:=hf.dst t h;rw[zec.2 e] at this;cases this
 unfold wpOp;rw[ho]
 dsimp only
 rcases hs with ⟨hw,t,ht,htn,rfl⟩|⟨hw,hs⟩
 ·rw[zb4 hInv hw];rw[if_neg (by simp)];refine hn _ _ K ρ ⟨hh.same fun nm=>by rw[hy2];simp[Pl.ap,rmv],by rw[put_defers];exact hi.defers,by rw[zuN];exact hi.size,fun t' d e=>?_⟩;have hsh:shape (St.of O n y).S=shape (x.2::O):=zd0 fun nm=>by rw[hy2];simp[Pl.ap,rmv]
  rw[hsh];have e':look y.1 t'=some d:=e;rw[hy1,ap_S] at e'
  by_cases htt:t=t'
  ·subst htt;simp[zac] at e';subst e';have hts:t<a.tmps.size:=by rw[hi.size];exact htn
   have hval:(a.put o.dst undef).tmps.getD t undef=.tuple ([]:List Value).toArray:=by
    rw[ht,zdY hts,if_pos rfl];rfl
   rw[hval];exact .tup .nil
  ·have hnone:look [(t,D.tup [])] t'=none:=by rw[zac,if_neg htt];rfl
   rw[hnone] at e';rw[zjP (by rw[ht];simpa using htt)];exact hi.slots _ _ e'
 ·rw[zb4 hInv hw];rw[if_pos rfl];refine .inl (hs _ (zy7 hh v.2) K ρ a w hInv next Q fun val w' σ' K' ρ' hle hk hI' hset=>?_);have hjoin:Joins x.2 v.2 (p.adds++rmv p.rem v.2) y.2:=by
   intro nm;rw[hy2,ap_H,zbY]
   cases h1:look p.adds nm with
   |some ob=>rfl
   |none=>
    simp only[ziW]
    by_cases hg:p.rem=some nm
    ·rw[if_pos hg,if_pos hg];obtain⟨ob,h2⟩:=zdQ.1 (hf.g _ hg);simp[h2]
    ·rw[if_neg hg,if_neg hg]
     cases h2:look v.2 nm with
     |some ob=>simp[hf.v2 _ _ h2]
     |none=>rfl
  have hfr:∀nm,has (p.adds++rmv p.rem v.2) nm=true→has x.2 nm=true→has v.2 nm=true:=by
   intro nm h1 h2;obtain⟨ob,h1⟩:=zdQ.1 h1;rw[zbY] at h1
   cases h3:look p.adds nm with
   |some ob'=>exact hf.fresh nm (zdv.2 ⟨_,h3⟩) h2
   |none=>
    rw[h3] at h1;simp only[ziW] at h1
    split at h1
    ·cases h1
    ·exact zdQ.2 ⟨_,h1⟩
  obtain⟨ρ'',h1,h2,h3⟩:=hh.join hI'.h hf.v2 hk hfr hf.k2 hjoin;refine hn _ _ K' ρ'' ⟨h1,hI'.defers,hI'.size,fun t d e=>?_⟩;have e':look y.1 t=some d:=e;rw[hy1,ap_S] at e'
  cases hl:look p.sets t with
  |some d'=>
   rw[hl] at e';simp only[Option.some.injEq] at e';subst e';rcases hset _ _ hl with rfl|h4
   ·exact .dead _
   ·exact (hI'.slots _ _ h4).stays h3
  |none=>
   rw[hl] at e';rw[zjP (hdst _ hl)];exact (hi.slots _ _ e').move h2 (hf.k1 _ _ e' (zec.2 hl))
def memN:List Nat→Nat→Bool
 |[],_=>false
 |x::r,n=>bif Nat.beq x n then true else memN r n
theorem zco {n:Nat}:∀{l:List Nat},memN l n=true↔n∈l
 |[]=>by simp[memN]
 |x::r=>by
  simp only[memN,List.mem_cons]
  by_cases h:x=n
  ·subst h;simp
  ·have:Nat.beq x n=false:=by
    cases hb:Nat.beq x n with
    |false=>rfl
    |true=>exact absurd (Nat.eq_of_beq_eq_true hb) h
   rw[this,cond_false,zco];simp[Ne.symm h]
def uni (a:List Nat):List Nat→List Nat
 |[]=>a
 |x::r=>bif memN a x then uni a r else uni (x::a) r
def zbx (o:Oper):List Nat:=(o.after.toList.filter fun e=>Region.binds .any e).map (·.on)
def getL (l:List (List Nat)) (i:Nat):List Nat:=match l[i]? with
 |some x=>x
 |none=>[]
def zcK:List Oper→List (List Nat)→List (List Nat)
 |[],acc=>acc
 |o::r,acc=>zcK r (acc++[(zbx o).foldl (fun l j=>uni (uni l [j]) (getL acc j)) []])
def allN:Nat→(Nat→Bool)→Bool
 |0,_=>true
 |n+1,f=>f n&&allN n f
theorem zbX {f:Nat→Bool}:∀{n:Nat},allN n f=true→∀k,k<n→f k=true
 |0,_,k,h=>absurd h (Nat.not_lt_zero _)
 |n+1,h,k,hk=>by
  simp only[allN,Bool.and_eq_true] at h
  by_cases e:k=n
  ·subst e;exact h.1
  ·exact zbX h.2 k (by omega)
def zjS (ops:Array Oper) (pre:List (List Nat)):Bool:=
 allN ops.size fun i=>match ops[i]? with
  |some o=>(zbx o).all (fun j=>Nat.ble (j+1) i)&&(getL pre i).all fun j=>(zbx o).any fun k=>Nat.beq k j||memN (getL pre k) j
  |none=>true
def zcQ (ops:Array Oper) (L:Nat→Bool):Prop:=∀i o,ops[i]? = some o→L i=true→∀j∈zbx o,L j=true
theorem zjR {ops:Array Oper} {pre:List (List Nat)} (h:zjS ops pre=true):∀i o,ops[i]? = some o→(∀j∈zbx o,j<i)∧∀j∈getL pre i,∃k∈zbx o,k=j∨j∈getL pre k:=by
 intro i o ho;have hlt:i<ops.size:=(Array.getElem?_eq_some_iff.1 ho).1;have h1:=zbX h i hlt;simp only[ho,Bool.and_eq_true,List.all_eq_true,List.any_eq_true,Bool.or_eq_true] at h1;refine⟨fun j hj=>Nat.le_of_ble_eq_true (h1.1 j hj),fun j hj=>?_⟩;obtain⟨k,hk,h2⟩:=h1.2 j hj;exact⟨k,hk,h2.imp Nat.eq_of_beq_eq_true zco.1⟩
theorem zdr {ops:Array Oper} {pre:List (List Nat)} (h:zjS ops pre=true) {L:Nat→Bool} (hc:zcQ ops L):∀(n i:Nat) (o:Oper),i<n→ops[i]? = some o→(∀j∈zbx o,L j=true)→∀j∈getL pre i,L j=true∧j<i:=by
 intro n
 induction n with
 |zero=>intro i o hi;omega
 |succ n ih=>
  intro i o hi ho hb j hj;obtain⟨h1,h2⟩:=zjR h i o ho;obtain⟨k,hk,h3⟩:=h2 j hj;have hk1:=h1 k hk;rcases h3 with rfl|h3
  ·exact⟨hb _ hk,hk1⟩
  ·have hlt:i<ops.size:=(Array.getElem?_eq_some_iff.1 ho).1;obtain⟨ok,hok⟩:∃ok,ops[k]? = some ok:=⟨ops[k]'(by omega),by rw[Array.getElem?_eq_getElem]⟩;have:=ih k ok (by omega) hok (hc k ok hok (hb k hk)) j h3;exact⟨this.1,by omega⟩
def zgK {α:Type} (l:List (Nat×α)):List Nat→List (Nat×α)
 |[]=>[]
 |t::r=>match look l t with
  |some d=>(t,d)::zgK l r
  |none=>zgK l r
theorem zcF {α:Type} {l:List (Nat×α)} {t:Nat} {d:α}:∀{ks:List Nat},look (zgK l ks) t=some d→look l t=some d
 |[],h=>by simp[zgK,look] at h
 |k::r,h=>by
  simp only[zgK] at h
  split at h
  ·rename_i x hx;rw[zac] at h
   split at h
   ·rename_i e;subst e;rw[hx];exact h
   ·exact zcF h
  ·exact zcF h
mutual
def D.names:D→List Nat
 |.own 0 nm _ _=>[nm]
 |.osl 0 nm=>[nm]
 |.psl nm _=>[nm]
 |.agg cs=>D.namesL cs
 |.tup cs=>D.namesL cs
 |.fn _ a b=>D.namesL a++D.namesL b
 |_=>[]
def D.namesL:List D→List Nat
 |[]=>[]
 |d::r=>d.names++D.namesL r
end
def Ob.names:Ob→List Nat
 |.box cs=>D.namesL cs
 |.tb _ cs=>D.namesL cs
 |_=>[]
def zjX:List (Nat×D)→List Nat
 |[]=>[]
 |(_,d)::r=>d.names++zjX r
def zwc:Heap→List Nat
 |[]=>[]
 |(_,o)::r=>o.names++zwc r
def zaI (ops:Array Oper) (o:Oper) (x:SH):SH:=
 let vs:=zgK x.1 (o.looksAt ops)
 let n1:=zjX vs
 (vs,zgK x.2 (n1++zwc (zgK x.2 n1)))
def keys {α:Type}:List (Nat×α)→List Nat
 |[]=>[]
 |(k,_)::r=>k::keys r
theorem mem_keys {α:Type} {t:Nat} {d:α}:∀{l:List (Nat×α)},look l t=some d→t∈keys l
 |[],h=>by simp[look] at h
 |(k,x)::r,h=>by
  rw[zac] at h;simp only[keys,List.mem_cons]
  split at h
  ·rename_i e;exact .inl e.symm
  ·exact .inr (mem_keys h)
def allS (f:Nat→D→Bool):List (Nat×D)→Bool
 |[]=>true
 |(t,d)::r=>f t d&&allS f r
theorem zdV {f:Nat→D→Bool} {t:Nat} {d:D}:∀{l:List (Nat×D)},allS f l=true→look l t=some d→f t d=true
 |[],_,h=>by simp[look] at h
 |(k,x)::r,h1,h=>by
  simp only[allS,Bool.and_eq_true] at h1;rw[zac] at h
  split at h
  ·rename_i e;subst e;simp only[Option.some.injEq] at h;subst h;exact h1.1
  ·exact zdV h1.2 h
def allH (f:Nat→Ob→Bool):Heap→Bool
 |[]=>true
 |(t,d)::r=>f t d&&allH f r
theorem zdm {f:Nat→Ob→Bool} {t:Nat} {d:Ob}:∀{l:Heap},allH f l=true→look l t=some d→f t d=true
 |[],_,h=>by simp[look] at h
 |(k,x)::r,h1,h=>by
  simp only[allH,Bool.and_eq_true] at h1;rw[zac] at h
  split at h
  ·rename_i e;subst e;simp only[Option.some.injEq] at h;subst h;exact h1.1
  ·exact zdm h1.2 h
def ordB (pre:List (List Nat)) (i j:Nat):Bool:=Nat.beq i j||memN (getL pre i) j||memN (getL pre j) i
def remL (g:Option Nat):List Nat:=match g with
 |some x=>[x]
 |none=>[]
def okI (ops:Array Oper) (pre:List (List Nat)) (ps:List Pl) (x0:SH) (i:Nat) (o:Oper) (x:SH) (p:Pl):Bool:=
 let v:=zaI ops o x
 ((keys v.1++keys p.sets).all fun t=>allN ops.size fun j=>!wS ps t j||ordB pre i j) &&
 ((keys v.2++(keys p.adds++remL p.rem)).all fun t=>allN ops.size fun j=>!wH ps t j||ordB pre i j) &&
 allS (fun _ d=>d.within (hasK v.2)) v.1&&allH (fun _ d=>d.within (hasK v.2)) v.2 &&
 (match o.dst with
  |some t=>hasK p.sets t
  |none=>true) &&
 ((keys p.adds).all fun nm=>hasK v.2 nm||(!hasK x0.2 nm&&allN ops.size fun j=>Nat.beq i j||memN (getL pre j) i||!hasK (pl ps j).adds nm)) &&
 (match p.rem with
  |none=>true
  |some g=>hasK v.2 g&&allS (fun t d=>hasK p.sets t||d.within (butG p.rem)) x0.1&&allH (fun t d=>Nat.beq t g||d.within (butG p.rem)) x0.2 &&
   allN ops.size fun j=>Nat.beq i j||memN (getL pre j) i||(allS (fun t d=>hasK p.sets t||d.within (butG p.rem)) (pl ps j).sets&&allH (fun t d=>Nat.beq t g||d.within (butG p.rem)) (pl ps j).adds))
mutual
theorem D.within_all:∀(d:D),d.within (butG none)=true
 |.own 0 _ _ _=>rfl
 |.own (_+1) _ _ _=>rfl
 |.osl 0 _=>rfl
 |.osl (_+1) _=>rfl
 |.agg cs=>by simp only[D.within];exact D.withins_all cs
 |.tup cs=>by simp only[D.within];exact D.withins_all cs
 |.fn _ a b=>by simp only[D.within,Bool.and_eq_true];exact⟨D.withins_all a,D.withins_all b⟩
 |.dead=>rfl
 |.i _=>rfl
 |.xsl _ _ _=>rfl
 |.psl _ _=>rfl
 |.bt=>rfl
 |.bf=>rfl
theorem D.withins_all:∀(d:List D),D.withins (butG none) d=true
 |[]=>rfl
 |d::r=>by simp only[D.withins,Bool.and_eq_true];exact⟨D.within_all d,D.withins_all r⟩
end
theorem Ob.within_all (o:Ob):o.within (butG none)=true:=by
 cases o with
 |box cs=>exact D.withins_all cs
 |tb _ cs=>exact D.withins_all cs
 |arr=>rfl
 |mp=>rfl
section
variable {ps:List Pl}
theorem zko {t:Nat} {d:D}:∀{l:List Nat} {x:SH},look (fold ps l x).1 t=some d→look x.1 t=some d∨∃k∈l,look (pl ps k).sets t=some d
 |[],x,h=>.inl h
 |i::l,x,h=>by
  have h':look (fold ps l ((pl ps i).ap x)).1 t=some d:=h;rcases zko h' with h1|⟨k,hk,h1⟩
  ·rw[ap_S] at h1
   cases h2:look (pl ps i).sets t with
   |some d'=>rw[h2] at h1;exact .inr ⟨i,by simp,by rw[h2];exact h1⟩
   |none=>rw[h2] at h1;exact .inl h1
  ·exact .inr ⟨k,by simp[hk],h1⟩
theorem zhl {t:Nat} {d:Ob}:∀{l:List Nat} {x:SH},look (fold ps l x).2 t=some d→look x.2 t=some d∨∃k∈l,look (pl ps k).adds t=some d
 |[],x,h=>.inl h
 |i::l,x,h=>by
  have h':look (fold ps l ((pl ps i).ap x)).2 t=some d:=h;rcases zhl h' with h1|⟨k,hk,h1⟩
  ·rw[ap_H] at h1
   cases h2:look (pl ps i).adds t with
   |some d'=>rw[h2] at h1;exact .inr ⟨i,by simp,by rw[h2];exact h1⟩
   |none=>
    rw[h2] at h1;simp only at h1
    split at h1
    ·cases h1
    ·exact .inl h1
  ·exact .inr ⟨k,by simp[hk],h1⟩
theorem fits {ops:Array Oper} {pre:List (List Nat)} {x0 x:SH} {i:Nat} {o:Oper} (hpre:zjS ops pre=true) (ho:ops[i]? = some o) (hok:okI ops pre ps x0 i o x (pl ps i)=true)
  (hx:x=fold ps (ord ops.size fun k=>Nat.ble (k+1) i) x0) {L:Nat→Bool} (hc:zcQ ops L) (hL:L i=false) (hb:∀j∈zbx o,L j=true) :
  Fits (fold ps (ord ops.size L) x0) (zaI ops o x) o (pl ps i) ∧
   (∀t,look (fold ps (ord ops.size fun k=>L k||Nat.beq k i) x0).1 t=look ((pl ps i).ap (fold ps (ord ops.size L) x0)).1 t) ∧
   ∀t,look (fold ps (ord ops.size fun k=>L k||Nat.beq k i) x0).2 t=look ((pl ps i).ap (fold ps (ord ops.size L) x0)).2 t:=by
 simp only[okI,Bool.and_eq_true] at hok;obtain⟨⟨⟨⟨⟨⟨c1,c2⟩,c3⟩,c4⟩,c5⟩,c6⟩,c7⟩:=hok;have hlt:i<ops.size:=(Array.getElem?_eq_some_iff.1 ho).1;have hdown:=zdr hpre hc (i+1) i o (by omega) ho hb;have hord:∀k,k<ops.size→ordB pre i k=true→k≠i→(L k=true∧k<i)∨(L k=false∧i<k):=by
  intro k hk h hne;simp only[ordB,Bool.or_eq_true] at h;rcases h with (h|h)|h
  ·exact absurd (Nat.eq_of_beq_eq_true h).symm hne
  ·exact .inl (hdown k (zco.1 h))
  ·obtain⟨ok,hok⟩:∃ok,ops[k]? = some ok:=⟨ops[k]'hk,by rw[Array.getElem?_eq_getElem]⟩;refine .inr ?_;have key:L k=true→L i=true:=fun hk1=>(zdr hpre hc (k+1) k ok (by omega) hok (hc k ok hok hk1) i (zco.1 h)).1;have hik:i<k:=(zdr hpre (L:=fun _=>true) (fun _ _ _ _ _ _=>rfl) (k+1) k ok (by omega) hok (fun _ _=>rfl) i (zco.1 h)).2;refine⟨?_,hik⟩
   cases hLk:L k with
   |false=>rfl
   |true=>rw[key hLk] at hL;cases hL
 have hsame:∀k,k<ops.size→ordB pre i k=true→L k=Nat.ble (k+1) i:=by
  intro k hk h
  by_cases hne:k=i
  ·subst hne;rw[hL]
   cases hb:Nat.ble (k+1) k with
   |false=>rfl
   |true=>have:=Nat.le_of_ble_eq_true hb;omega
  ·rcases hord k hk h hne with ⟨h1,h2⟩|⟨h1,h2⟩
   ·rw[h1,Nat.ble_eq_true_of_le (by omega)]
   ·rw[h1]
    cases hb:Nat.ble (k+1) i with
    |false=>rfl
    |true=>have:=Nat.le_of_ble_eq_true hb;omega
 have hW1:∀t,t∈keys (zaI ops o x).1++keys (pl ps i).sets→∀k,k<ops.size→wS ps t k=true→ordB pre i k=true:=by
  intro t ht k hk hw;have:=zbX (List.all_eq_true.1 c1 t ht) k hk;rw[hw] at this;simpa using this
 have hW2:∀t,t∈keys (zaI ops o x).2++(keys (pl ps i).adds++remL (pl ps i).rem)→∀k,k<ops.size→wH ps t k=true→ordB pre i k=true:=by
  intro t ht k hk hw;have:=zbX (List.all_eq_true.1 c2 t ht) k hk;rw[hw] at this;simpa using this
 have hasEq:has (zaI ops o x).2=hasK (zaI ops o x).2:=by
  funext n;unfold has hasK;cases look (zaI ops o x).2 n<;>rfl
 have hL':∀k,k∈ord ops.size L→k≠i∧k<ops.size∧L k=true∧memN (getL pre k) i=false:=by
  intro k hk;rw[zcw] at hk;have hne:k≠i:=fun e=>by rw[e,hL] at hk;cases hk.2
  refine⟨hne,hk.1,hk.2,?_⟩
  cases hm:memN (getL pre k) i with
  |false=>rfl
  |true=>
   obtain⟨ok,hok⟩:∃ok,ops[k]? = some ok:=⟨ops[k]'hk.1,by rw[Array.getElem?_eq_getElem]⟩;have:=(zdr hpre hc (k+1) k ok (by omega) hok (hc k ok hok hk.2) i (zco.1 hm)).1;rw[hL] at this;cases this
 refine⟨⟨?_,?_,?_,?_,?_,?_,?_,?_,?_⟩,?_,?_⟩
 ·intro t d h;have h1:look x.1 t=some d:=zcF h;rw[hx] at h1;rw[zfb (fun x=>look x.1 t) (wS ps t) (fun i x h=>zgn h x) (fun i x y h=>ztl h x y) (m':=fun k=>Nat.ble (k+1) i)]
  ·exact h1
  ·intro k hk hw;exact hsame k hk (hW1 t (List.mem_append.2 (.inl (mem_keys h))) k hk hw)
 ·intro t d h;have h1:look x.2 t=some d:=zcF h;rw[hx] at h1;rw[zfb (fun x=>look x.2 t) (wH ps t) (fun i x h=>zgo h x) (fun i x y h=>ztm h x y) (m':=fun k=>Nat.ble (k+1) i)]
  ·exact h1
  ·intro k hk hw;exact hsame k hk (hW2 t (List.mem_append.2 (.inl (mem_keys h))) k hk hw)
 ·intro t d h;rw[hasEq];exact zdV c3 h
 ·intro t d h;rw[hasEq];exact zdm c4 h
 ·intro t h;rw[h] at c5;exact c5
 ·intro nm h1 h2;obtain⟨ob,h1'⟩:=zdv.1 h1;have h3:=List.all_eq_true.1 c6 nm (mem_keys h1');simp only[Bool.or_eq_true,Bool.and_eq_true,Bool.not_eq_true'] at h3;rcases h3 with h3|⟨h3,h4⟩
  ·rw[hasEq];exact h3
  ·obtain⟨ob2,h2'⟩:=zdQ.1 h2;rcases zhl h2' with h5|⟨k,hk,h5⟩
   ·rw[zdv.2 ⟨_,h5⟩] at h3;cases h3
   ·obtain⟨hne,hk1,_,hm⟩:=hL' k hk;have:=zbX h4 k hk1;simp only[Bool.or_eq_true] at this;rcases this with (h6|h6)|h6
    ·exact absurd (Nat.eq_of_beq_eq_true h6).symm hne
    ·rw[hm] at h6;cases h6
    ·rw[zdv.2 ⟨_,h5⟩] at h6;cases h6
 ·intro t d h h1
  cases hr:(pl ps i).rem with
  |none=>exact D.within_all d
  |some g=>
   rw[hr] at c7;simp only[Bool.and_eq_true] at c7;obtain⟨⟨⟨d1,d2⟩,d3⟩,d4⟩:=c7;rcases zko h with h5|⟨k,hk,h5⟩
   ·have:=zdV d2 h5;rw[h1] at this;simpa using this
   ·obtain⟨hne,hk1,_,hm⟩:=hL' k hk;have:=zbX d4 k hk1;have hne':Nat.beq i k=false:=by
     cases hb:Nat.beq i k with
     |false=>rfl
     |true=>exact absurd (Nat.eq_of_beq_eq_true hb).symm hne
    rw[hm,hne'] at this;simp only[Bool.false_or,Bool.and_eq_true] at this;have:=zdV this.1 h5;rw[h1] at this;simpa using this
 ·intro nm ob h h1
  cases hr:(pl ps i).rem with
  |none=>exact Ob.within_all ob
  |some g=>
   rw[hr] at c7;simp only[Bool.and_eq_true] at c7;obtain⟨⟨⟨d1,d2⟩,d3⟩,d4⟩:=c7;have hne0:Nat.beq nm g=false:=by
    cases hb:Nat.beq nm g with
    |false=>rfl
    |true=>
     have:=Nat.eq_of_beq_eq_true hb;subst this;rw[zec.2 h1] at d1;cases d1
   rcases zhl h with h5|⟨k,hk,h5⟩
   ·have:=zdm d3 h5;rw[hne0] at this;simpa using this
   ·obtain⟨hne,hk1,_,hm⟩:=hL' k hk;have:=zbX d4 k hk1;have hne':Nat.beq i k=false:=by
     cases hb:Nat.beq i k with
     |false=>rfl
     |true=>exact absurd (Nat.eq_of_beq_eq_true hb).symm hne
    rw[hm,hne'] at this;simp only[Bool.false_or,Bool.and_eq_true] at this;have:=zdm this.2 h5;rw[hne0] at this;simpa using this
 ·intro g hr;rw[hr] at c7;simp only[Bool.and_eq_true] at c7;rw[hasEq];exact c7.1.1.1
 ·intro t
  cases hw:wS ps t i with
  |true=>
   obtain⟨d,hd⟩:=zdv.1 hw;refine zfd (fun x=>look x.1 t) (wS ps t) (fun i x h=>zgn h x) (fun i x y h=>ztl h x y) (zd4 _ _) (zcw.2 ⟨hlt,by simp⟩) hw ?_ _ _;intro k hk hwk;rw[zcw] at hk
   by_cases hne:k=i
   ·omega
   ·have hk2:L k=true:=by
     have:=hk.2;simp only[Bool.or_eq_true] at this;rcases this with h'|h'
     ·exact h'
     ·exact absurd (Nat.eq_of_beq_eq_true h') hne
    rcases hord k hk.1 (hW1 t (List.mem_append.2 (.inr (mem_keys hd))) k hk.1 hwk) hne with ⟨_,h2⟩|⟨h1,_⟩
    ·omega
    ·rw[h1] at hk2;cases hk2
  |false=>
   rw[zgn hw];refine zfb (fun x=>look x.1 t) (wS ps t) (fun i x h=>zgn h x) (fun i x y h=>ztl h x y) ?_ _;intro k hk hwk;have hne:Nat.beq k i=false:=by
    cases hb:Nat.beq k i with
    |false=>rfl
    |true=>
     have:=Nat.eq_of_beq_eq_true hb;subst this;rw[hw] at hwk;cases hwk
   simp[hne]
 ·intro t
  cases hw:wH ps t i with
  |true=>
   refine zfd (fun x=>look x.2 t) (wH ps t) (fun i x h=>zgo h x) (fun i x y h=>ztm h x y) (zd4 _ _) (zcw.2 ⟨hlt,by simp⟩) hw ?_ _ _;have hmem:t∈keys (zaI ops o x).2++(keys (pl ps i).adds++remL (pl ps i).rem):=by
    refine List.mem_append.2 (.inr (List.mem_append.2 ?_));simp only[wH,Bool.or_eq_true] at hw;rcases hw with h1|h1
    ·obtain⟨d,hd⟩:=zdv.1 h1;exact .inl (mem_keys hd)
    ·rw[zld.1 h1];exact .inr (by simp[remL])
   intro k hk hwk;rw[zcw] at hk
   by_cases hne:k=i
   ·omega
   ·have hk2:L k=true:=by
     have:=hk.2;simp only[Bool.or_eq_true] at this;rcases this with h'|h'
     ·exact h'
     ·exact absurd (Nat.eq_of_beq_eq_true h') hne
    rcases hord k hk.1 (hW2 t hmem k hk.1 hwk) hne with ⟨_,h2⟩|⟨h1,_⟩
    ·omega
    ·rw[h1] at hk2;cases hk2
  |false=>
   rw[zgo hw];refine zfb (fun x=>look x.2 t) (wH ps t) (fun i x h=>zgo h x) (fun i x y h=>ztm h x y) ?_ _;intro k hk hwk;have hne:Nat.beq k i=false:=by
    cases hb:Nat.beq k i with
    |false=>rfl
    |true=>
     have:=Nat.eq_of_beq_eq_true hb;subst this;rw[hw] at hwk;cases hwk
   simp[hne]
end
def okGo (ops:Array Oper) (pre:List (List Nat)) (ps:List Pl) (x0:SH):List Oper→List Pl→Nat→SH→Bool
 |[],[],_,_=>true
 |o::r,p::qs,i,x=>okI ops pre ps x0 i o x p&&okGo ops pre ps x0 r qs (i+1) (p.ap x)
 |_::_,[],_,_=>true
 |[],_::_,_,_=>false
def zrd (ops:Array Oper) (pre:List (List Nat)) (m:Nat):Bool:=allN ops.size fun j=>Nat.ble (j+1) m||allN j fun k=>memN (getL pre j) k
def okT (ops:Array Oper) (ps:List Pl) (x0:SH):Bool:=
 let pre:=zcK ops.toList []
 zjS ops pre&&okGo ops pre ps x0 ops.toList ps 0 x0&&zrd ops pre ps.length
def okD (ops:Array Oper) (ps:List Pl) (x0:SH):Bool:=
 let pre:=zcK ops.toList []
 zjS ops pre&&okGo ops pre ps x0 ops.toList ps 0 x0&&Nat.beq ps.length ops.size
def zdX (c:Cx) (ops:Array Oper) (O:List Heap) (n:Nat):List Oper→List Pl→SH→Prop
 |[],[],_=>True
 |o::r,p::qs,x=>zc3 c ops O n o (zaI ops o x) p∧zdX c ops O n r qs (p.ap x)
 |_::_,[],_=>True
 |[],_::_,_=>False
theorem zpP {ops:Array Oper} {ps:List Pl} {x0:SH} (h:okD ops ps x0=true):okT ops ps x0=true∧ps.length=ops.size:=by
 simp only[okD,Bool.and_eq_true] at h;have hl:=Nat.eq_of_beq_eq_true h.2;refine⟨?_,hl⟩;simp only[okT,Bool.and_eq_true];refine⟨h.1,?_⟩;unfold zrd;have:∀m,m≤ops.size→allN m (fun j=>Nat.ble (j+1) ps.length||allN j fun k=>memN (getL (zcK ops.toList []) j) k)=true:=by
  intro m
  induction m with
  |zero=>intro _;rfl
  |succ m ih=>
   intro hm;simp only[allN,Bool.and_eq_true,Bool.or_eq_true];exact⟨.inl (Nat.ble_eq_true_of_le (by omega)),ih (by omega)⟩
 exact this _ (Nat.le_refl _)
def zbS (qs:List Pl) (x:SH):SH:=qs.foldl (fun x p=>p.ap x) x
theorem zgg {ops:Array Oper} {pre:List (List Nat)} {ps:List Pl} {x0:SH}:∀{l:List Oper} {qs:List Pl} {i:Nat} {x:SH},okGo ops pre ps x0 l qs i x=true →
  qs.length≤l.length∧∀k o p,l[k]? = some o→qs[k]? = some p→okI ops pre ps x0 (i+k) o (zbS (qs.take k) x) p=true
 |[],[],i,x,_=>⟨Nat.le_refl _,by simp⟩
 |o::r,p::qs,i,x,h=>by
  simp only[okGo,Bool.and_eq_true] at h;obtain⟨h1,h2⟩:=zgg h.2;refine⟨by simp only[List.length_cons];omega,fun k o' p' hk hp=>?_⟩
  cases k with
  |zero=>
   simp only[List.getElem?_cons_zero,Option.some.injEq] at hk hp;subst hk hp;exact h.1
  |succ k=>
   have hh:=h2 k o' p' (by simpa using hk) (by simpa using hp);rw[show i+(k+1)=i+1+k by omega];exact hh
 |[],_::_,_,_,h=>by simp[okGo] at h
 |_::_,[],_,_,h=>⟨Nat.zero_le _,by simp⟩
theorem zfp {c:Cx} {ops:Array Oper} {O:List Heap} {n:Nat}:∀{l:List Oper} {qs:List Pl} {x:SH},zdX c ops O n l qs x →
  ∀k o p,l[k]? = some o→qs[k]? = some p→zc3 c ops O n o (zaI ops o (zbS (qs.take k) x)) p
 |[],[],x,_=>by simp
 |o::r,p::qs,x,h=>by
  intro k o' p' hk hp
  cases k with
  |zero=>
   simp only[List.getElem?_cons_zero,Option.some.injEq] at hk hp;subst hk hp;exact h.1
  |succ k=>exact zfp h.2 k o' p' (by simpa using hk) (by simpa using hp)
 |[],_::_,_,h=>h.elim
 |_::_,[],_,h=>by simp
theorem zbA {ps:List Pl} {x:SH}:∀k,k≤ps.length→fold ps (List.range k) x=zbS (ps.take k) x
 |0,_=>by simp[fold,zbS]
 |k+1,h=>by
  rw[List.range_succ,zhm,zbA k (by omega),List.take_add_one];have:ps[k]? = some (ps[k]'(by omega)):=List.getElem?_eq_getElem _;rw[this];simp only[zbS,List.foldl_append,Option.toList,List.foldl_cons,List.foldl_nil];simp only[fold,List.foldl_cons,List.foldl_nil,pl,this]
theorem ze1 {n:Nat} {m m':Nat→Bool} (h:∀k,k<n→m k=m' k):ord n m=ord n m':=by
 unfold ord;refine List.filter_congr fun k hk=>h k (List.mem_range.1 hk)
theorem zdt {o:Oper} {j:Nat}:j∈zbx o↔∃e∈o.after,Region.binds .any e=true∧e.on=j:=by
 simp only[zbx,List.mem_map,List.mem_filter,Array.mem_toList_iff];constructor
 ·rintro ⟨e,⟨h1,h2⟩,h3⟩;exact⟨e,h1,h2,h3⟩
 ·rintro ⟨e,h1,h2,h3⟩;exact⟨e,⟨h1,h2⟩,h3⟩
theorem znC {E:Env} {K:Kn} {ρ:Nat→Nat→Loc} {s:St} {a:Act} {w:World} (h:Inv E K ρ s a w) (d:Nat):Inv E K ρ s a {w with drawn:=d}:=by
 obtain⟨⟨h1,h2,h3,h4,h5,h6,h7,h8,h9,h10⟩,h11,h12,h13⟩:=h;refine⟨⟨h1,fun dep nm ob e=>?_,h3,h4,h5,h6,h7,h8,h9,h10⟩,h11,h12,h13⟩;have:=h2 dep nm ob e
 cases ob with
 |box cs=>exact this
 |tb=>exact this
 |arr=>exact this
 |mp=>exact this
theorem znm {c:Cx} (hm:c.P.follows .mixedOrders=true) {id:Nat} {ops:Array Oper} {O:List Heap} {n:Nat} {x0:SH} {ps:List Pl} {k:List Item} (hok:okT ops ps x0=true) (hch:zdX c ops O n ops.toList ps x0)
  (hend:RG c ops (List.range' ps.length (ops.size-ps.length)) (St.of O n (zbS ps x0)) k):Rch c (.code (.region id ops true)::k) (St.of O n x0):=by
 simp only[okT,Bool.and_eq_true] at hok;obtain⟨⟨hpre,hgo⟩,htl⟩:=hok;obtain⟨hlen,hget⟩:=zgg hgo;have hlen':ps.length≤ops.size:=by simpa using hlen
 intro K ρ a w b cs hi hb hk
 let Q:Exit→Act→World→Prop:=fun e a' w'=>e=.normal∧Ends c k a' w'
 have hgetD:∀(listed:Array Bool) (i:Nat),listed.size=ops.size→i<ops.size→∀k,(listed.setIfInBounds i true).getD k false=(listed.getD k false||Nat.beq k i):=by
  intro listed i hsz hlt k
  by_cases hki:k=i
  ·subst hki;simp[hsz,hlt]
  ·have:Nat.beq k i=false:=by
    cases hb:Nat.beq k i with
    |false=>rfl
    |true=>exact absurd (Nat.eq_of_beq_eq_true hb) hki
   rw[this,Bool.or_false,getD_set_ne false (Ne.symm hki)]
 have hcntlt:∀(listed:Array Bool) (i:Nat),listed.size=ops.size→i<ops.size→listed.getD i false=false→(List.range ops.size).countP (fun k=>!(listed.setIfInBounds i true).getD k false)<(List.range ops.size).countP (fun k=>!listed.getD k false):=by
  intro listed i hsz hlt hLi;have e1:(fun k=>!(listed.setIfInBounds i true).getD k false)=fun k=>!listed.getD k false&&!Nat.beq k i:=by
   funext k;rw[hgetD listed i hsz hlt];simp
  rw[e1];obtain⟨l1,l2,hl⟩:=List.append_of_mem (List.mem_range.2 hlt);rw[hl];simp only[List.countP_append,List.countP_cons];have m1:l1.countP (fun k=>!listed.getD k false&&!Nat.beq k i)≤l1.countP (fun k=>!listed.getD k false):=List.countP_mono_left fun x _ hx=>by simp only[Bool.and_eq_true] at hx;exact hx.1
  have m2:l2.countP (fun k=>!listed.getD k false&&!Nat.beq k i)≤l2.countP (fun k=>!listed.getD k false):=List.countP_mono_left fun x _ hx=>by simp only[Bool.and_eq_true] at hx;exact hx.1
  have e2:(!listed.getD i false)=true:=by rw[hLi];rfl
  have e3:Nat.beq i i=true:=Nat.beq_refl i;rw[if_pos e2,if_neg (by rw[e3];simp)];omega
 have hready:∀(listed:Array Bool),listed.size=ops.size→∀i,i<ops.size→listed.getD i false=false→(∀o,ops[i]? = some o→∀j∈zbx o,listed.getD j false=true)→i∈Region.ready .any ops listed:=by
  intro listed hsz i hlt hLi hbe;rw[mem_ready];obtain⟨o,ho⟩:∃o,ops[i]? = some o:=⟨ops[i],by rw[Array.getElem?_eq_getElem]⟩;refine⟨?_,o,ho,fun e he hb1=>hbe o ho e.on (zdt.2 ⟨e,he,hb1,rfl⟩)⟩;simp only[Array.getD_eq_getD_getElem?] at hLi ⊢;rw[Array.getElem?_eq_getElem (by omega)] at hLi ⊢;simpa using hLi
 have hfromReady:∀(listed:Array Bool),listed.size=ops.size→∀i∈Region.ready .any ops listed,∃o,ops[i]? = some o∧i<ops.size∧listed.getD i false=false∧∀j∈zbx o,listed.getD j false=true:=by
  intro listed hsz i hi;obtain⟨h1,o,ho,hbe⟩:=mem_ready.1 hi;have hlt:i<ops.size:=(Array.getElem?_eq_some_iff.1 ho).1;refine⟨o,ho,hlt,?_,fun j hj=>?_⟩
  ·simp only[Array.getD_eq_getD_getElem?] at h1 ⊢;rw[Array.getElem?_eq_getElem (by omega)] at h1 ⊢;simpa using h1
  ·obtain⟨e,he,hb1,rfl⟩:=zdt.1 hj;exact hbe e he hb1
 have hclose:∀(listed:Array Bool) (i:Nat) (o:Oper),listed.size=ops.size→ops[i]? = some o→i<ops.size→(∀j∈zbx o,listed.getD j false=true)→zcQ ops (fun k=>listed.getD k false)→zcQ ops (fun k=>(listed.setIfInBounds i true).getD k false):=by
  intro listed i o hsz ho hlt hbef hc k ok hok2 hk2 j hj;have hk2:(listed.setIfInBounds i true).getD k false=true:=hk2;show (listed.setIfInBounds i true).getD j false=true;rw[hgetD listed i hsz hlt] at hk2 ⊢;simp only[Bool.or_eq_true] at hk2;rcases hk2 with hk2|hk2
  ·have hcj:listed.getD j false=true:=hc k ok hok2 hk2 j hj;rw[hcj];rfl
  ·have:=Nat.eq_of_beq_eq_true hk2;subst this;rw[ho] at hok2;simp only[Option.some.injEq] at hok2;subst hok2;rw[hbef j hj];rfl
 have htail:∀(listed:Array Bool) (i:Nat) (o:Oper),ops[i]? = some o→ps.length≤i→zcQ ops (fun k=>listed.getD k false)→(∀j∈zbx o,listed.getD j false=true)→∀j,j<i→listed.getD j false=true:=by
  intro listed i o ho hge hc hbef j hj;have hlt:i<ops.size:=(Array.getElem?_eq_some_iff.1 ho).1;have h1:=zbX htl i hlt;simp only[Bool.or_eq_true] at h1;rcases h1 with h1|h1
  ·have:=Nat.le_of_ble_eq_true h1;omega
  ·exact (zdr hpre hc (i+1) i o (by omega) ho hbef j (zco.1 (zbX h1 j hj))).1
 -- the tail
 have tail:∀(fuel m:Nat) (listed:Array Bool) (a:Act) (w:World),listed.size=ops.size→ps.length≤m→m≤ops.size→ops.size-m≤fuel→(∀j,j<ops.size→listed.getD j false=Nat.ble (j+1) m)→zcQ ops (fun k=>listed.getD k false) →
   wpOps c.P ops Q (List.range' m (ops.size-m)) a w→wpAny c.P .any ops Q fuel listed a w:=by
  intro fuel
  induction fuel with
  |zero=>
   intro m listed a w hsz hm1 hm2 hf hl hc hw;have:ops.size-m=0:=by omega
   rw[this] at hw;refine⟨?_,hw⟩
   cases hr:Region.ready .any ops listed with
   |nil=>rfl
   |cons i r=>
    obtain⟨o,ho,hlt,hLi,_⟩:=hfromReady listed hsz i (by rw[hr];simp);rw[hl i hlt,Nat.ble_eq_true_of_le (by omega)] at hLi
    cases hLi
  |succ fuel ih=>
   intro m listed a w hsz hm1 hm2 hf hl hc hw;refine⟨fun hr=>?_,fun i hi=>?_⟩
   ·by_cases hms:m=ops.size
    ·have:ops.size-m=0:=by omega
     rw[this] at hw;exact hw
    ·exfalso;have hmlt:m<ops.size:=by omega
     have:m∈Region.ready .any ops listed:=by
      refine hready listed hsz m hmlt ?_ fun o ho j hj=>?_
      ·rw[hl m hmlt]
       cases hb:Nat.ble (m+1) m with
       |false=>rfl
       |true=>have:=Nat.le_of_ble_eq_true hb;omega
      ·have hjm:=(zjR hpre m o ho).1 j hj;rw[hl j (by omega)];exact Nat.ble_eq_true_of_le hjm
     rw[hr] at this;cases this
   ·obtain⟨o,ho,hlt,hLi,hbef⟩:=hfromReady listed hsz i hi;have him:m≤i:=by
     rw[hl i hlt] at hLi
     apply Nat.le_of_not_lt
     intro h;rw[Nat.ble_eq_true_of_le h] at hLi;cases hLi
    have:i=m:=by
     apply Classical.byContradiction
     intro hne;have:=htail listed i o ho (by omega) hc hbef m (by omega);rw[hl m (by omega)] at this;have:=Nat.le_of_ble_eq_true this;omega
    subst this;rw[show ops.size-i=(ops.size-(i+1))+1 by omega,List.range'_succ,wpOps_cons] at hw;refine wpOp_mono (fun a w h=>?_) hw;refine ih (i+1) _ a w (by simpa using hsz) (by omega) (by omega) (by omega) (fun j hj=>?_) (hclose listed i o hsz ho hlt hbef hc) h;rw[hgetD listed i hsz hlt,hl j hj]
    by_cases hji:j=i
    ·subst hji;rw[Nat.beq_refl,Bool.or_true];exact (Nat.ble_eq_true_of_le (Nat.le_refl _)).symm
    ·have hbn:Nat.beq j i=false:=by
      cases hb:Nat.beq j i with
      |false=>rfl
      |true=>exact absurd (Nat.eq_of_beq_eq_true hb) hji
     rw[hbn,Bool.or_false]
     by_cases hji2:j+1≤i
     ·rw[Nat.ble_eq_true_of_le hji2,Nat.ble_eq_true_of_le (by omega)]
     ·have e1:Nat.ble (j+1) i=false:=by
       cases hb:Nat.ble (j+1) i with
       |false=>rfl
       |true=>exact absurd (Nat.le_of_ble_eq_true hb) hji2
      have e2:Nat.ble (j+1) (i+1)=false:=by
       cases hb:Nat.ble (j+1) (i+1) with
       |false=>rfl
       |true=>have:=Nat.le_of_ble_eq_true hb;omega
      rw[e1,e2]
 have hclosedlt:∀(listed:Array Bool),zcQ ops (fun k=>listed.getD k false)→(∃j,j<ps.length∧listed.getD j false=false)→∀i,i<ops.size→ps.length≤i→listed.getD i false=false:=by
  intro listed hc ⟨j,hj,hjf⟩ i hi hge
  cases hLi:listed.getD i false with
  |false=>rfl
  |true=>
   obtain⟨o,ho⟩:∃o,ops[i]? = some o:=⟨ops[i],by rw[Array.getElem?_eq_getElem]⟩;have:=htail listed i o ho hge hc (fun k hk=>hc i o ho hLi k hk) j (by omega);rw[hjf] at this;cases this
 have key:∀(fuel:Nat) (listed:Array Bool) (a:Act) (w:World),listed.size=ops.size→(List.range ops.size).countP (fun k=>!listed.getD k false)≤fuel→zcQ ops (fun k=>listed.getD k false) →
   (∀i,i<ops.size→ps.length≤i→listed.getD i false=false)→(∃K ρ,Inv c.E K ρ (St.of O n (fold ps (ord ops.size fun k=>listed.getD k false) x0)) a w)→wpAny c.P .any ops Q fuel listed a w:=by
  intro fuel
  induction fuel with
  |zero=>
   intro listed a w hsz hcnt hc hno hinv;have hl:∀i,i<ops.size→listed.getD i false=true:=by
    have h0:=List.countP_eq_zero.1 (Nat.le_zero.1 hcnt);intro i hi;have:=h0 i (List.mem_range.2 hi);simpa using this
   have hps:ps.length=ops.size:=by
    apply Classical.byContradiction
    intro hne;have h1:=hno ps.length (by omega) (Nat.le_refl _);rw[hl _ (by omega)] at h1;cases h1
   refine tail 0 ops.size listed a w hsz (by omega) (Nat.le_refl _) (by omega) (fun j hj=>?_) hc ?_
   ·rw[hl j hj,Nat.ble_eq_true_of_le (by omega)]
   ·rw[Nat.sub_self];obtain⟨K,ρ,hinv⟩:=hinv;have e:ord ops.size (fun k=>listed.getD k false)=List.range ps.length:=by
     rw[hps];unfold ord;rw[List.filter_eq_self];intro k hk;exact hl k (List.mem_range.1 hk)
    rw[e,zbA _ (Nat.le_refl _),List.take_of_length_le (Nat.le_refl _)] at hinv;have:=hend K ρ a w hinv;rw[hps,Nat.sub_self] at this;exact this
  |succ fuel ih=>
   intro listed a w hsz hcnt hc hno hinv
   by_cases hall:∀j,j<ps.length→listed.getD j false=true
   ·
    have hl:∀j,j<ops.size→listed.getD j false=Nat.ble (j+1) ps.length:=by
     intro j hj
     by_cases hjl:j<ps.length
     ·rw[hall j hjl,Nat.ble_eq_true_of_le hjl]
     ·rw[hno j hj (by omega)]
      cases hb:Nat.ble (j+1) ps.length with
      |false=>rfl
      |true=>have:=Nat.le_of_ble_eq_true hb;omega
    refine tail (fuel+1) ps.length listed a w hsz (Nat.le_refl _) hlen' ?_ hl hc ?_
    ·refine Nat.le_trans ?_ hcnt;have e:(List.range ops.size)=List.range ps.length++(List.range' ps.length (ops.size-ps.length)):=by
      have h:=List.range'_append_1 (s:=0) (m:=ps.length) (n:=ops.size-ps.length);rw[Nat.zero_add,Nat.add_sub_cancel' hlen'] at h;rw[List.range_eq_range',List.range_eq_range',h]
     rw[e,List.countP_append];have:(List.range' ps.length (ops.size-ps.length)).countP (fun k=>!listed.getD k false)=(List.range' ps.length (ops.size-ps.length)).length:=by
      rw[List.countP_eq_length];intro k hk;rw[List.mem_range'_1] at hk;rw[hno k (by omega) hk.1];rfl
     rw[this,List.length_range'];omega
    ·obtain⟨K,ρ,hinv⟩:=hinv;have e:ord ops.size (fun k=>listed.getD k false)=List.range ps.length:=by
      rw[←zcq (n:=ops.size) hlen'];exact ze1 fun k hk=>hl k hk
     rw[e,zbA _ (Nat.le_refl _),List.take_of_length_le (Nat.le_refl _)] at hinv;exact hend K ρ a w hinv
   ·have hex:∃j,j<ps.length∧listed.getD j false=false:=by
     apply Classical.byContradiction
     intro hne
     apply hall
     intro j hj
     cases hb:listed.getD j false with
     |true=>rfl
     |false=>exact absurd ⟨j,hj,hb⟩ hne
    obtain⟨K,ρ,hinv⟩:=hinv;refine⟨fun hr=>?_,fun i hi=>?_⟩
    ·
     exfalso;obtain⟨j,hj,hjf⟩:=hex;have:∀m i,i<m→i<ops.size→listed.getD i false=true:=by
      intro m
      induction m with
      |zero=>intro i h;omega
      |succ m ih=>
       intro i hi1 hi2
       cases hcc:listed.getD i false with
       |true=>rfl
       |false=>
        exfalso;have:i∈Region.ready .any ops listed:=hready listed hsz i hi2 hcc fun o ho k hk=>by
         have:=(zjR hpre i o ho).1 k hk;exact ih k (by omega) (by omega)
        rw[hr] at this;cases this
     rw[this (j+1) j (by omega) (by omega)] at hjf
     cases hjf
    ·obtain⟨o,ho,hlt,hLi,hbef⟩:=hfromReady listed hsz i hi;have hil:i<ps.length:=by
      apply Nat.lt_of_not_le
      intro hge;obtain⟨j,hj,hjf⟩:=hex;rw[htail listed i o ho hge hc hbef j (by omega)] at hjf
      cases hjf
     have hp:ps[i]? = some ps[i]:=List.getElem?_eq_getElem hil;have hok1:=hget i o _ (by simpa using ho) hp;have hst:=zfp hch i o _ (by simpa using ho) hp;generalize ps[i]=p at *;have hpl:pl ps i=p:=by simp[pl,hp]
     rw[Nat.zero_add] at hok1;rw[←zbA i (by omega),←zcq (n:=ops.size) (by omega)] at hok1 hst;rw[←hpl] at hok1 hst;obtain⟨hf,hy1,hy2⟩:=fits hpre ho hok1 rfl hc hLi hbef;refine zft ho hst hf hy1 hy2 hinv fun a' w' K' ρ' hinv'=>?_;refine ih _ _ _ (by simpa using hsz) ?_ (hclose listed i o hsz ho hlt hbef hc) (fun k hk1 hk2=>?_) ⟨K',ρ',?_⟩
     ·have:=hcntlt listed i hsz hlt hLi;omega
     ·rw[hgetD listed i hsz hlt,hno k hk1 hk2,Bool.false_or]
      cases hb:Nat.beq k i with
      |false=>rfl
      |true=>have:=Nat.eq_of_beq_eq_true hb;omega
     ·rw[ze1 fun k _=>hgetD listed i hsz hlt k];exact hinv'
 have hrep:∀k,(Array.replicate ops.size false).getD k false=false:=by
  intro k;simp only[Array.getD_eq_getD_getElem?,Array.getElem?_replicate]
  split<;>rfl
 have h0:ord ops.size (fun k=>(Array.replicate ops.size false).getD k false)=[]:=by
  unfold ord;rw[List.filter_eq_nil_iff];intro k _;rw[hrep];simp
 obtain⟨e,a',w',⟨rfl,hq⟩,harr⟩:=wp_region_any (id:=id) hm (key ops.size _ a {w with drawn:=w.drawn+1} (by simp) (by
  refine Nat.le_trans (List.countP_le_length ..) ?_;simp) (fun i o _ h=>by
   have h:(Array.replicate ops.size false).getD i false=true:=h;rw[hrep] at h
   cases h) (fun i _ _=>hrep i) ⟨K,ρ,by rw[h0];exact znC hi _⟩) b k cs
 obtain⟨v,w'',fr,hp,hst,h3⟩:=hq b cs hb hk;exact⟨v,w'',fr,hp,Steps.trans harr hst,h3⟩
def FD (c:Cx) (ops:Array Oper) (O:List Heap) (n:Nat) (x0:SH) (k:List Item) (x:SH) (ps:List Pl):Prop:=okT ops ps x0=true∧RG c ops (List.range' ps.length (ops.size-ps.length)) (St.of O n x) k
theorem zsG {c:Cx} {ops:Array Oper} {O:List Heap} {n:Nat} {x0:SH} {k:List Item} {x:SH} {ps:List Pl} (hok:okD ops ps x0=true) (h:Rch c k (St.of O n x)):FD c ops O n x0 k x ps:=by
 obtain⟨h1,h2⟩:=zpP hok;refine⟨h1,?_⟩;rw[h2,Nat.sub_self];exact zv7 h
end Go.AI
