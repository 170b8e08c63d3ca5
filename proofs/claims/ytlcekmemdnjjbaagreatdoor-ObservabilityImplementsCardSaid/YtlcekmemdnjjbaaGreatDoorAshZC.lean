/- The layer of abstract runs, part 29. -/
import Derived.Test.YtlcekmemdnjjbaaGreatDoorAshZB
import Derived.WideKeyArgs
import Derived.Lib.SmallJoins
import Derived.Deep.Slices
set_option linter.unusedSimpArgs false
set_option linter.unusedVariables false
set_option linter.all false

set_option maxHeartbeats 4000000
namespace Go.Proofs.YtlcekmemdnjjbaaGreatDoor
open Go.ChangeShapes Go.WideShapes Go.ChangeAt Go.RowKit Go.Deep Go.WideElems
set_option maxRecDepth 100000
def KW (W:World):AI.Kn:=fun b o => W.cell? ⟨b,o,none⟩
theorem zwg (W:World):∀ bl o x,KW W bl o = some x → W.cell? ⟨bl,o,none⟩ = some x:=fun _ _ _ h => h
section
variable {H:Type} {enc:TypeId × Value → H} {P:Program} {W:World}
def Opn (enc:TypeId × Value → H) (P:Program) (W:World) (t:TypeId) (R:List AI.I → Prop):Prop:=
 ∀ n cs x,DataW.trod enc P W 0 (fun _ => true) true n t cs = some x → ∃ is,AI.RepL (KW W) cs is ∧ R is
theorem zfA {K:AI.Kn} {a b:List Value} {c d:List AI.I} (h:AI.RepL K a c) (h':AI.RepL K b d):AI.RepL K (a ++ b) (c ++ d):=h.append h'
theorem zgc {t:TypeId} {k:IntKind} (ht:P.underlying t = some (.int k)):Opn enc P W t fun is => ∃ z,is = [.v (.int k z)] ∧ (Lit.int k z).wf = true:=by
 intro n cs x h
 obtain ⟨z,rfl,rfl,hw⟩:=DataW.trod_int ht h
 exact ⟨[.v (.int k z)],.cons (.v rfl) .nil,z,rfl,hw⟩
theorem zl7 {K:AI.Kn} {k:IntKind}:∀ {cs:List Value},(∀ i,i < cs.length → ∃ z,cs[i]? = some (.int k z) ∧ (Lit.int k z).wf = true) → ∃ zs:List Int,zs.length = cs.length ∧ AI.RepL K cs (zs.map fun z => .v (.int k z)) ∧ ∀ z ∈ zs,(Lit.int k z).wf = true
 | [],_ => ⟨[],rfl,.nil,by simp⟩
 | c :: cs,h => by
  obtain ⟨z,hz,hw⟩:=h 0 (by simp)
  simp only [List.getElem?_cons_zero,Option.some.injEq] at hz
  subst hz
  obtain ⟨zs,h1,h2,h3⟩:=zl7 (cs:=cs) fun i hi => by
   have:=h (i + 1) (by simp; omega)
   simpa using this
  exact ⟨z :: zs,by simp [h1],.cons (.v rfl) h2,fun y hy => by
   rcases List.mem_cons.1 hy with rfl | hy
   ·exact hw
   ·exact h3 y hy⟩
theorem zpi {t e:TypeId} {k:IntKind} {m:Nat} (ht:P.underlying t = some (.array m e)) (he:P.underlying e = some (.int k)) (hc:P.cellsOf e = 1) (hct:P.cellsOf t = m) :
  Opn enc P W t fun is => ∃ zs:List Int,zs.length = m ∧ is = zs.map (fun z => .v (.int k z)) ∧ ∀ z ∈ zs,(Lit.int k z).wf = true:=by
 intro n cs x h
 obtain ⟨xs,f,rfl,rfl,hl,hlen,hx⟩:=DataW.trod_array ht h
 rw [hct] at hl
 obtain ⟨zs,h1,h2,h3⟩:=zl7 (K:=KW W) (k:=k) (cs:=cs) fun i hi => by
  have h0:=hx i (by omega)
  rw [hc,Nat.mul_one,List.getElem?_eq_getElem (by omega)] at h0
  obtain ⟨z,hz,_,hw⟩:=DataW.trod_int he h0
  refine ⟨z,?_,hw⟩
  have:=congrArg (fun l => l[0]?) hz
  simpa [List.getElem?_take,List.getElem?_drop] using this
 exact ⟨_,h2,zs,by omega,rfl,h3⟩
theorem zj2 {t:TypeId} {f0 f1 f2:Field} {R0 R1 R2:List AI.I → Prop} {z0 z1 z2:Nat} (ht:P.underlying t = some (.struct #[f0,f1,f2])) (hc:P.cellsOf t = z0 + z1 + z2)
  (c0:P.cellsOf f0.type = z0) (c1:P.cellsOf f1.type = z1) (c2:P.cellsOf f2.type = z2) (o0:f0.offset = 0) (o1:f1.offset = z0) (o2:f2.offset = z0 + z1)
  (h0:Opn enc P W f0.type R0) (h1:Opn enc P W f1.type R1) (h2:Opn enc P W f2.type R2):Opn enc P W t fun is => ∃ a b c,is = a ++ b ++ c ∧ R0 a ∧ R1 b ∧ R2 c:=by
 intro n cs x h
 obtain ⟨y0,y1,y2,m,_,hl,g0,g1,g2⟩:=trod_struct3 ht h
 obtain ⟨a,ra,ha⟩:=h0 _ _ _ g0
 obtain ⟨b,rb,hb⟩:=h1 _ _ _ g1
 obtain ⟨c,rc,hcc⟩:=h2 _ _ _ g2
 refine ⟨a ++ b ++ c,?_,a,b,c,rfl,ha,hb,hcc⟩
 have e:cs = (cs.drop f0.offset).take (P.cellsOf f0.type) ++ (cs.drop f1.offset).take (P.cellsOf f1.type) ++ (cs.drop f2.offset).take (P.cellsOf f2.type):=by
  rw [c0,c1,c2,o0,o1,o2,List.drop_zero]
  have e1:(cs.drop (z0 + z1)).take z2 = cs.drop (z0 + z1):=List.take_of_length_le (by simp; omega)
  rw [e1]
  have e2:cs.drop (z0 + z1) = (cs.drop z0).drop z1:=by rw [List.drop_drop]
  rw [e2,List.append_assoc,List.take_append_drop,List.take_append_drop]
 rw [e]
 exact zfA (zfA ra rb) rc
theorem znY {t:TypeId} (hl:laidOutB P = true) (hr:P.readableRec t = true) (hrow:decide (t < P.types.size) = true) {W':World} {v:Value} {d:DataW H} {ps:List MemPlace}
  (h:DataW.Trod enc P W 0 (fun _ => true) true t v d ps) (hold:∀ i,i < W.heap.size → W'.heap[i]? = W.heap[i]?):DataW.Trod enc P W' 0 (fun b => decide (b < W.heap.size)) true t v d ps:=by
 have hlt:∀ p ∈ ps,p.block < W.heap.size:=by
  obtain ⟨n,hn⟩:=h
  exact DataW.trod_lt n t _ _ hn
 refine Trod_stays hl hr (of_decide_eq_true hrow) h (fun p hp => ?_) (fun p hp => decide_eq_true (hlt p hp))
 have hb:=hlt p hp
 cases p with
 | cell b off =>
  show W'.cell? ⟨b,off,none⟩ = W.cell? ⟨b,off,none⟩
  unfold World.cell?
  rw [hold b hb]
 | map b => exact hold b hb
end
end Go.Proofs.YtlcekmemdnjjbaaGreatDoor


namespace Go.Proofs.YtlcekmemdnjjbaaGreatDoor
open Go.ChangeShapes Go.WideShapes Go.ChangeAt Go.RowKit Go.Deep Go.WideElems
set_option maxRecDepth 100000
section
variable {H:Type} {enc:TypeId × Value → H} {W:World}
theorem wf_u8 {z:Int} (h:(Lit.int .u8 z).wf = true):0 ≤ z ∧ z ≤ 255:=by
 simp only [Lit.wf,Bool.and_eq_true,decide_eq_true_eq] at h
 have e1:IntKind.u8.min = 0:=rfl
 have e2:IntKind.u8.max = 255:=rfl
 rw [e1,e2] at h
 exact h
structure autLen (x:AI.Aut):Prop where
 e:x.edges.length ≤ AI.zas
 a:x.alpha.length ≤ AI.zas
 m:x.marked.length ≤ AI.zas
end
end Go.Proofs.YtlcekmemdnjjbaaGreatDoor


namespace Go.Proofs.YtlcekmemdnjjbaaGreatDoor
open Go.ChangeShapes Go.WideShapes Go.ChangeAt Go.RowKit Go.Deep Go.WideElems
set_option maxRecDepth 100000
section
variable {H:Type} {enc:TypeId × Value → H} {W:World}
end
end Go.Proofs.YtlcekmemdnjjbaaGreatDoor


namespace Go.AI
open Go.Proofs
set_option maxRecDepth 20000
theorem ziw (O:List Heap) (R:Heap) (l:List Int) (nm f cb:Nat) (B:Ob) (p:Int → Bool) (hl:l.length ≤ 1000000) (hB:zaa O 0 cb = some B) (hR:zaT nm R = R)
  (hp:∀ x ∈ l,∀ d O,zaa O d cb = some B → zan Tryz.prog f [ii x,.own d cb 0 0] O (bb (p x)) [] O) :
  zm7 Tryz.prog 54 [.osl 0 nm,.fn (.func f) [] [.own 1 cb 0 0]] (((nm,zaw l) :: R) :: O) nm (.osl 1 nm) [] (((nm,zaw (l.filter fun x => !p x)) :: R) :: O):=by
 have hcb:∀ m:List Int,zaa (((nm,zaw m) :: R) :: O) 1 cb = some B:=fun m => zaI hB
 have hnm:∀ m:List Int,zaa (((nm,zaw m) :: R) :: O) 0 nm = some (zaw m):=fun m => by simp [zaa,zab]
 have hix:=fun H => zvj (H :: ((nm,zaw l) :: R) :: O) l 1 nm (zaI (hnm l)) f 2 cb p (by simp only [zas]; omega) (fun x hx => hp x hx _ _ (zaI (zaI (hcb l))))
 have hpx:∀ x ∈ l,∀ m:List Int,∀ H,zan Tryz.prog f [ii x,.own 2 cb 0 0] (H :: ((nm,zaw m) :: R) :: O) (bb (p x)) [] (H :: ((nm,zaw m) :: R) :: O):=fun x hx m H => hp x hx _ _ (zaI (hcb m))
 have hsp:=zgH p l 0
 generalize zay p l 0 = ix at *
 refine zgU nm [200038,200041] Tk Tryz.func54 rfl Tryz.call54 Tryz.ntmps54 (Nat.le_of_ble_eq_true rfl) fun E => ?_
 refine zae Tk Tryz.func54 ?_
 refine zaf Tk Tryz.func54 (hix _) rfl rfl rfl rfl rfl ?_
 refine zai Tk Tryz.func54 rfl (fun c1 => ?_) (fun c1 => ?_)
 ·have c1:ix = -1:=beqT c1
  rcases hsp with ⟨_,h2⟩ | ⟨k,hk,h1,_⟩
  ·have e:l.filter (fun x => !p x) = l:=List.filter_eq_self.2 fun x hx => by rw [h2 x hx]; rfl
   rw [e]
   refine zpS Tk (nm:=nm) (r:=.osl 1 nm) (Moved.refl _ _) rfl rfl rfl trivial rfl rfl rfl
  ·omega
 have c1:ix ≠ -1:=beqF c1
 rcases hsp with ⟨h1,_⟩ | ⟨k,hk,h1,h2,h3⟩
 ·exact absurd h1 c1
 rw [Nat.zero_add] at h1
 subst h1
 clear c1 hix
 have hob:∀ m:List Int,∀ H,zaa (H :: ((nm,zaw m) :: R) :: O) 1 nm = some (zaw m):=fun m H => zaI (hnm m)
 have hw1:ii (IntKind.i64.wrap ((k:Int) + 1)) = ii ((k + 1:Nat):Int):=congrArg ii (zaB (n:=1000001) (by omega) (by decide))
 have hst0:l.take k = (l.take (k + 1)).filter fun x => !p x:=by
  rw [List.take_add_one,List.getElem?_eq_getElem hk,List.filter_append]
  rw [List.filter_eq_self.2 fun x hx => by rw [h3 x hx]; rfl]
  simp [h2]
 refine zac ?_
 refine zah (fun x:Nat × Nat × List Int => [(0,.osl 1 nm),(1,.fn (.func f) [] [.own 2 cb 0 0]),(5,ii x.1),(6,ii x.2.1)]) (fun _ => []) (fun x => ((nm,zaw x.2.2) :: R) :: O) 42
  (fun x => x.1 < x.2.1 ∧ x.2.1 ≤ l.length ∧ x.2.2.length = l.length ∧ x.2.2.take x.1 = ((l.take x.2.1).filter fun x => !p x) ∧ x.2.2.drop x.2.1 = l.drop x.2.1) (fun x => l.length - x.2.1) (k,k + 1,l)
  ⟨Nat.lt_succ_self _,hk,rfl,hst0,rfl⟩ ⟨rfl,rfl,rfl,hw1,trivial⟩ rfl trivial rfl rfl ?_
 clear hst0 hw1 h2 h3 hk
 rintro ⟨i,j,m⟩ ⟨hij,hjl,hml,htk,hdr⟩ ih
 simp only at hij hjl hml htk hdr
 refine zae Tk Tryz.func54 ?_
 refine zbg Tk Tryz.func54 (hob m _) ?_
 refine zai Tk Tryz.func54 rfl (fun g1 => ?_) (fun g1 => ?_)
 ·have h1:j < l.length:=by rw [← hml]; simpa using g1
  clear g1
  have hmj:m[j]? = some l[j]:=by
   have e1:(m.drop j)[0]? = (l.drop j)[0]?:=by rw [hdr]
   rw [List.getElem?_drop,List.getElem?_drop,Nat.add_zero] at e1
   rw [e1,List.getElem?_eq_getElem h1]
  have gm:(m.map fun x => [vi x])[(j:Int).toNat]? = some [vi l[j]]:=by rw [Int.toNat_natCast,List.getElem?_map,hmj]; rfl
  have hpj:=hpx _ (List.getElem_mem h1)
  have htk2:l.take (j + 1) = l.take j ++ [l[j]]:=by rw [List.take_add_one,List.getElem?_eq_getElem h1]; rfl
  have hdr2:∀ m':List Int,m'.drop (j + 1) = (m'.drop j).drop 1:=fun m' => by rw [List.drop_drop]
  generalize l[j] = x at *
  have hj1:ii (IntKind.i64.wrap ((j:Int) + 1)) = ii ((j + 1:Nat):Int):=congrArg ii (zaB (n:=1000001) (by omega) (by decide))
  have hi1:ii (IntKind.i64.wrap ((i:Int) + 1)) = ii ((i + 1:Nat):Int):=congrArg ii (zaB (n:=1000001) (by omega) (by decide))
  refine zbg Tk Tryz.func54 (hob m _) ?_
  refine zag Tk Tryz.func54 (by exact ⟨by omega,by show (j:Int) < (m.length:Int); omega⟩) ?_
  refine zbg Tk Tryz.func54 (hob m _) ?_
  refine zap Tk Tryz.func54 (gm) ?_
  refine zaf Tk Tryz.func54 (hpj m _) rfl rfl rfl rfl rfl ?_
  refine zai Tk Tryz.func54 rfl (fun g2 => ?_) (fun g2 => ?_)
  ·have g2:p x = false:=notT g2
   refine zbg Tk Tryz.func54 (hob m _) ?_
   refine zag Tk Tryz.func54 (by exact ⟨by omega,by show (i:Int) < (m.length:Int); omega⟩) ?_
   refine zbg Tk Tryz.func54 (hob m _) ?_
   refine zac ?_
   refine zao (wk_S (S':=[] :: ((nm,zaw (m.set i x)) :: R) :: O) fun d n => ?_) ?_
   ·have e:Ob.arr 3 1 m.length ((m.map fun x => [vi x]).set (i:Int).toNat [vi x]) true = zaw (m.set i x):=by
     rw [Int.toNat_natCast]
     simp [List.map_set]
    rw [← e]
    exact zpm d n
   refine ih (i + 1,j + 1,m.set i x) _ _ ⟨by simp only; omega,h1,by simp only [List.length_set]; exact hml,?_,?_⟩ (by simp only; omega) ⟨rfl,rfl,hi1,hj1,trivial⟩ rfl trivial rfl rfl
   ·simp only
    rw [htk2,List.filter_append,← htk,List.take_add_one,List.getElem?_set_self (by omega),List.take_set_of_le (Nat.le_refl i)]
    simp [g2]
   ·simp only
    rw [List.drop_set_of_lt (by omega),hdr2,hdr2,hdr]
  ·have g2:p x = true:=notF g2
   refine zac ?_
   refine ih (i,j + 1,m) _ _ ⟨by simp only; omega,h1,hml,?_,?_⟩ (by simp only; omega) ⟨rfl,rfl,rfl,hj1,trivial⟩ rfl trivial rfl rfl
   ·simp only
    rw [htk2,List.filter_append,← htk]
    simp [g2]
   ·simp only
    rw [hdr2,hdr2,hdr]
 ·have h1:l.length ≤ j:=by rw [← hml]; simpa using g1
  rw [List.take_of_length_le h1] at htk
  clear ih hdr g1
  have hin:i < m.length:=by omega
  have hil:(l.filter fun x => !p x).length = i:=by rw [← htk,List.length_take]; omega
  refine znI Tk Tryz.func54 (nm:=nm) (n:=m.length) (i0:=i) (ti1:=zev) (ti2:=zhE) (xs:=m.map fun x => [vi x]) (z:=.int .i64 0) hin rfl rfl rfl rfl rfl rfl rfl rfl rfl Tryz.zeroValue3 rfl rfl rfl rfl rfl rfl rfl rfl rfl rfl rfl rfl (by simp [zab]) rfl ?_
  refine zkn Tk Tryz.func54 (nm:=nm) (n:=m.length) (m:=i) (ti1:=zev) (ti2:=zhE) (es:=1) (xs:=(m.map fun x => [vi x]).take i ++ List.replicate (m.length - i) [I.v (.int .i64 0)]) (Nat.le_of_lt hin) (by omega) rfl rfl rfl rfl rfl rfl rfl rfl rfl rfl rfl (by simp [zab]) rfl ?_
  intro E' hM
  have hkk:zaT nm ((nm,Ob.arr 3 1 m.length ((m.map fun x => [vi x]).take i ++ List.replicate (m.length - i) [I.v (.int .i64 0)]) true) :: (nm,zaw m) :: R) = R:=by
   simp [zaT,hR]
  have hfin:Ob.arr 3 1 i (((m.map fun x => [vi x]).take i ++ List.replicate (m.length - i) [I.v (.int .i64 0)]).take i) true = zaw (l.filter fun x => !p x):=by
   rw [List.take_append_of_le_length (by rw [List.length_take,List.length_map]; omega),List.take_take,Nat.min_self,← List.map_take,htk]
   simp [zaw,hil]
  refine zpS Tk (nm:=nm) (r:=.osl 1 nm) hM rfl rfl rfl trivial rfl ?_ rfl
  show ((nm,Ob.arr 3 1 i (((m.map fun x => [vi x]).take i ++ List.replicate (m.length - i) [I.v (.int .i64 0)]).take i) true) :: zaT nm ((nm,Ob.arr 3 1 m.length ((m.map fun x => [vi x]).take i ++ List.replicate (m.length - i) [I.v (.int .i64 0)]) true) :: (nm,zaw m) :: R)) :: O = ((nm,zaw (l.filter fun x => !p x)) :: R) :: O
  rw [hkk,hfin]
theorem znS {c:Cx} (hP:c.P = Tryz.prog) {s:St} {o:Oper} {t nm f cb:Nat} {l:List Int} {R:Heap} {O:List Heap} {B:Ob} (p:Int → Bool) (hl:l.length ≤ 1000000) (hB:zaa O 0 cb = some B) (hR:zaT nm R = R)
  (hp:∀ x ∈ l,∀ d O,zaa O d cb = some B → zan Tryz.prog f [ii x,.own d cb 0 0] O (bb (p x)) [] O) (ht:o.dst = some t) (hn:t < s.n) (hS:s.S = ((nm,zaw l) :: R) :: O) :
  Wp c o s 54 [.osl 0 nm,.fn (.func f) [] [.own 1 cb 0 0]] { σ:=(t,.osl 0 nm) :: zd2 nm s.σ,S:=((nm,zaw (l.filter fun x => !p x)) :: R) :: O,n:=s.n }:=by
 have h:=ziw O R l nm f cb B p hl hB hR hp
 refine zfg (c:=c) (s:=s) (o:=o) (nm:=nm) (res:=.osl 1 nm) ?_ ht hn hS (xs:=l.map fun x => [vi x]) (wr:=true) (by rw [zab,if_pos rfl]) ⟨_,_,_,_,_,by rw [zab,if_pos rfl]⟩ ?_
 ·rw [hP,hS]
  have e:D.imms (zen (((nm,zaw l) :: R) :: O)) [.osl 0 nm,.fn (.func f) [] [.own 1 cb 0 0]] = [.osl 0 nm,.fn (.func f) [] [.own 1 cb 0 0]]:=by
   simp [D.imms,D.imm,zen,zab]
  rw [e]
  exact h
 ·intro d m hd
  match d with
  | 0 =>
   have hm:¬ nm = m:=fun e => by rcases hd with h | h; exact h rfl; exact h e.symm
   simp only [shape,zaa,List.getElem?_cons_zero,zab,if_neg hm]
  | d + 1 => simp [shape,zaa]
end Go.AI


namespace Go.AI
open Go.Proofs
set_option maxRecDepth 20000
theorem zqe (O:List Heap) (b:Int):zan Tryz.prog 30 [u8D b] O (.osl 0 17) [(17,zaw (zbd b))] O:=by
 refine zat [7] Tk Tryz.func30 rfl Tryz.call30 Tryz.ntmps30 (Nat.le_of_ble_eq_true rfl) fun E => ?_
 refine zae Tk Tryz.func30 ?_
 refine zac ?_
 refine zao (zb4 3 17 3 1 rfl rfl rfl) ?_
 refine zah (fun i:Nat => [(0,u8D b),(3,.osl 0 17),(4,ii i)]) (fun i => [(17,zaw (rawM b i))]) (fun _ => O) 19
  (fun i => i ≤ 5) (fun i => 5 - i) 0 (Nat.zero_le _) ⟨rfl,rfl,rfl,trivial⟩ rfl ⟨rfl,trivial⟩ rfl rfl ?_
 intro i hi ih
 have hj1:ii (IntKind.i64.wrap ((i:Int) + 1)) = ii ((i + 1:Nat):Int):=congrArg ii (zaB (n:=1000001) (by omega) (by decide))
 have hs:=zf5 b i
 have hl:=zeC b i
 refine zae Tk Tryz.func30 ?_
 refine zai Tk Tryz.func30 rfl (fun g1 => ?_) (fun g1 => ?_)
 ·have g1:(i:Int) < 5:=of_decide_eq_true g1
  refine zag Tk Tryz.func30 (by exact ⟨by omega,by show (i:Int) ≤ (8:Nat); omega⟩) ?_
  refine zai Tk Tryz.func30 rfl (fun g2 => ?_) (fun g2 => ?_)
  ·have g2:bitP b i = true:=g2
   rw [if_pos g2] at hs
   refine zag Tk Tryz.func30 (by exact ⟨by show ((rawM b i).length + 1) * 8 ≤ 140737488355328; omega,by show (rawM b i).length + 1 ≤ 9223372036854775807; omega⟩) ?_
   refine zac ?_
   refine ih (i + 1) _ _ (by omega) (by omega) ⟨rfl,rfl,hj1,trivial⟩ rfl ⟨?_,trivial⟩ rfl rfl
   rw [hs]
   exact congrArg some (zaL (rawM b i) (i:Int))
  ·have g2:¬ bitP b i = true:=by intro h; exact absurd (g2.symm.trans h) (by decide)
   rw [if_neg g2,List.append_nil] at hs
   refine zac ?_
   exact ih (i + 1) _ _ (by omega) (by omega) ⟨rfl,rfl,hj1,trivial⟩ rfl ⟨by rw [hs]; rfl,trivial⟩ rfl rfl
 ·have g1:¬ (i:Int) < 5:=of_decide_eq_false g1
  obtain rfl:i = 5:=by omega
  refine zax ?_
  refine zae Tk Tryz.func30 ?_
  refine g_go Tk Tryz.func30 ?_
  exact ⟨zbm (hT:=Tk) (r:=.osl 0 17) rfl rfl rfl ⟨⟨_,rfl,rfl⟩,trivial⟩ (zeh _ _ _) rfl rfl⟩
theorem zvV (O:List Heap) (x:Int) (l:List Int) (hl:l.length ≤ 1000000) (d nm:Nat) (ho:zaa O d nm = some (.box [ints l])):zan Tryz.prog 55 [ii x,.own d nm 0 0] O (bb (!decide (x ∈ l))) [] O:=by
 have h:=fun O => zbc O l x (by simp only [zas]; omega)
 refine zad Tk Tryz.func55 rfl Tryz.call55 Tryz.ntmps55 (Nat.le_of_ble_eq_true rfl) fun E => ?_
 refine zae Tk Tryz.func55 ?_
 refine zbg Tk Tryz.func55 (zaI ho) ?_
 refine zaf Tk Tryz.func55 (h _) rfl rfl rfl rfl rfl ?_
 refine zal Tk (r:=bb (!decide (x ∈ l))) rfl rfl rfl trivial rfl rfl ?_
 rfl
def hasR (l s:List Int):List Int:=s.filter fun x => decide (x ∈ l)
theorem zvk (O:List Heap) (b:Int) (l:List Int) (hl:l.length ≤ 1000000) (nm:Nat) (ho:zaa O 0 nm = some (.box [ints l])):zan Tryz.prog 53 [u8D b,.own 0 nm 0 0] O (ints (hasR l (zbd b))) [] O:=by
 have e:hasR l (zbd b) = (zbd b).filter fun x => !(!decide (x ∈ l)):=by simp [hasR]
 have h5:=(zjt b).2.2
 have hev:=fun O => zqe O b
 rw [e]
 refine zat [200007] Tk Tryz.func53 rfl Tryz.call53 Tryz.ntmps53 (Nat.le_of_ble_eq_true rfl) fun E => ?_
 refine zae Tk Tryz.func53 ?_
 refine zaf Tk Tryz.func53 (hev _) rfl rfl rfl rfl rfl ?_
 refine zdB Tk Tryz.func53 rfl rfl rfl rfl (znS (l:=zbd b) (R:=[]) (B:=.box [ints l]) rfl (fun x => !decide (x ∈ l)) (by omega) ho rfl (fun x _ d O ho => zvV O x l hl d nm ho) rfl (show 7 < 8 by decide) rfl) ?_
 refine zcJ (zam 17 rfl rfl) ?_
 refine zal Tk (r:=ints ((zbd b).filter fun x => !(!decide (x ∈ l)))) rfl rfl rfl trivial rfl rfl ?_
 rfl
end Go.AI


namespace Go.AI
abbrev zvm (gs:Int) (gt:Nat → Int):Prop:=0 ≤ gs ∧ ∀ j,0 ≤ gt j ∧ gt j ≤ 255
open Go.Proofs
set_option maxRecDepth 20000
structure Sk where
 st:Int
 ps:Int
 pm:Int
 pt:Nat → Int
 ss:Int
 sm:Int
 t2:Nat → Int
 ob:Int
 ct:Int
abbrev skC (x:Sk):List D:=[u8D x.st,u8D x.ps,u8D x.pm,u8D (x.pt 0),u8D (x.pt 1),u8D (x.pt 2),u8D (x.pt 3),u8D (x.pt 4),u8D (x.pt 5),u8D (x.pt 6),u8D (x.pt 7),u8D (x.pt 8),u8D (x.pt 9),u8D (x.pt 10),u8D (x.pt 11),u8D (x.pt 12),u8D (x.pt 13),u8D (x.pt 14),u8D (x.pt 15),u8D (x.pt 16),u8D (x.pt 17),u8D (x.pt 18),u8D (x.pt 19),u8D (x.pt 20),u8D (x.pt 21),u8D (x.pt 22),u8D (x.pt 23),u8D (x.pt 24),u8D x.ss,u8D x.sm,u8D (x.t2 0),u8D (x.t2 1),u8D (x.t2 2),u8D (x.t2 3),u8D (x.t2 4),u8D (x.t2 5),u8D (x.t2 6),u8D (x.t2 7),u8D (x.t2 8),u8D (x.t2 9),u8D (x.t2 10),u8D (x.t2 11),u8D (x.t2 12),u8D (x.t2 13),u8D (x.t2 14),u8D (x.t2 15),u8D (x.t2 16),u8D (x.t2 17),u8D (x.t2 18),u8D (x.t2 19),u8D (x.t2 20),u8D (x.t2 21),u8D (x.t2 22),u8D (x.t2 23),u8D (x.t2 24),u8D x.ob,u8D x.ct]
structure skOkB (x:Sk):Prop where
 p:zvm x.ps x.pt
 s:zvm x.ss x.t2
def mkS (x:Sk):Sys:=⟨mkA (zbd x.st) x.ps x.pm x.pt,mkA (zbd x.st) x.ss x.sm x.t2,hasR (zbd x.st) (zbd x.ob),hasR (zbd x.st) (zbd x.ct)⟩
theorem zsY (O:List Heap) (x:Sk) (h:skOkB x):zan Tryz.prog 15 [.agg (skC x)] O (sysD (mkS x)) [] O:=by
 obtain ⟨e1,e2,e3⟩:=zjt x.st
 have p:=zpw (gs:=x.ps) (gm:=x.pm) e1 e2 e3 h.p.2
 have s:=zpw (gs:=x.ss) (gm:=x.sm) e1 e2 e3 h.s.2
 have c1:=fun O => zsZ O (zbd x.st) x.ps x.pm x.pt e3 h.p.1 p.1.1 p.1.2
 have c2:=fun O => zsZ O (zbd x.st) x.ss x.sm x.t2 e3 h.s.1 s.1.1 s.1.2
 have c0:=fun O => zsq O x.st
 have c3:=fun O nm ho => zvk O x.ob (zbd x.st) (by omega) nm ho
 have c4:=fun O nm ho => zvk O x.ct (zbd x.st) (by omega) nm ho
 unfold mkS
 clear p s e1 e2 e3 h
 generalize mkA (zbd x.st) x.ps x.pm x.pt = A at *
 generalize mkA (zbd x.st) x.ss x.sm x.t2 = B at *
 generalize hasR (zbd x.st) (zbd x.ob) = M at *
 generalize hasR (zbd x.st) (zbd x.ct) = N at *
 generalize zbd x.st = l at *
 obtain ⟨al,st,mk,es⟩:=A
 obtain ⟨al',st',mk',es'⟩:=B
 obtain ⟨xst,xps,xpm,xpt,xss,xsm,xt2,xob,xct⟩:=x
 simp only at c0 c1 c2
 refine zad Tk Tryz.func15 rfl Tryz.call15 Tryz.ntmps15 (Nat.le_of_ble_eq_true rfl) fun E => ?_
 refine zae Tk Tryz.func15 ?_
 refine zaf Tk Tryz.func15 (c0 _) rfl rfl rfl rfl rfl ?_
 refine zaD Tk Tryz.func15 zaN rfl ?_
 refine za2 Tk (fun _ => c1 _) rfl rfl rfl ?_
 refine za2 Tk (fun _ => c2 _) rfl rfl rfl ?_
 refine zoZ Tk (c3 _ 3 rfl) rfl rfl rfl ?_
 refine zoZ Tk (c4 _ 3 rfl) rfl rfl rfl ?_
 refine zoX Tk rfl rfl rfl ?_
 refine zaS Tk Tryz.func15 (by kernel_rfl) ?_
 refine zal Tk (r:=sysD ⟨⟨al,st,mk,es⟩,⟨al',st',mk',es'⟩,M,N⟩) rfl rfl rfl trivial rfl rfl ?_
 rfl
end Go.AI


namespace Go.AI
open Go.Proofs
set_option maxRecDepth 20000
theorem zhc (O:List Heap) (a:Aut) (s ev:Int) (hl:a.edges.length ≤ 1000000):zan Tryz.prog 18 [autD a,ii s,ii ev] O (ii (stp3 a.edges s ev)) [] O:=by
 obtain ⟨al,st,mk,es⟩:=a
 simp only at hl ⊢
 generalize hR:stp3 es s ev = R
 refine zad Tk Tryz.func18 rfl Tryz.call18 Tryz.ntmps18 (Nat.le_of_ble_eq_true rfl) fun E => ?_
 refine zae Tk Tryz.func18 ?_
 refine zac ?_
 refine zah (fun i:Nat => [(1,ii s),(2,ii ev),(10,edgs es),(11,ii es.length),(12,ii i)]) (fun _ => []) (fun _ => O) 29
  (fun i => i ≤ es.length ∧ stp3 (es.drop i) s ev = R) (fun i => es.length - i) 0 ⟨Nat.zero_le _,hR⟩ ⟨rfl,rfl,rfl,rfl,rfl,trivial⟩ rfl trivial rfl rfl ?_
 rintro i ⟨hi,hno⟩ ih
 clear hR
 refine zae Tk Tryz.func18 ?_
 refine zai Tk Tryz.func18 rfl (fun g1 => ?_) (fun g1 => ?_)
 ·have h1:i < es.length:=by simpa using g1
  have ge:(es.map edgI)[(i:Int).toNat]? = some (edgI es[i]):=zaj h1
  have dl:es.drop i = es[i] :: es.drop (i + 1):=List.drop_eq_getElem_cons h1
  rw [dl] at hno
  simp only [stp3] at hno
  clear dl
  generalize es[i] = y at *
  obtain ⟨yf,ye,yt⟩:=y
  simp only at hno
  have n1:0 ≤ (i:Int) ∧ (i:Int) < (es.length:Int):=by omega
  refine zag Tk Tryz.func18 (by exact n1) ?_
  refine zap Tk Tryz.func18 (ge) ?_
  refine zaW Tk Tryz.func18 rfl (fun g2 => ?_) (fun g2 => ?_)
  ·have g2:yf = s:=beqT g2
   refine zai Tk Tryz.func18 rfl (fun g3 => ?_) (fun g3 => ?_)
   ·have g3:ye = ev:=beqT g3
    rw [if_pos ⟨g2,g3⟩] at hno
    subst hno
    refine zal Tk (r:=ii yt) rfl rfl rfl trivial rfl rfl ?_
    rfl
   ·have g3:ye ≠ ev:=beqF g3
    rw [if_neg (fun h => g3 h.2)] at hno
    refine zac ?_
    exact ih (i + 1) _ _ ⟨h1,hno⟩ (by omega) ⟨rfl,rfl,rfl,rfl,congrArg ii (zaB (n:=1000001) (by omega) (by decide)),trivial⟩ rfl trivial rfl rfl
  ·have g2:yf ≠ s:=beqF g2
   rw [if_neg (fun h => g2 h.1)] at hno
   refine gcF Tk Tryz.func18 rfl ?_
   refine zac ?_
   exact ih (i + 1) _ _ ⟨h1,hno⟩ (by omega) ⟨rfl,rfl,rfl,rfl,congrArg ii (zaB (n:=1000001) (by omega) (by decide)),trivial⟩ rfl trivial rfl rfl
 ·have h1:es.length ≤ i:=by simpa using g1
  rw [List.drop_eq_nil_of_le h1] at hno
  simp only [stp3] at hno
  subst hno
  refine zal Tk (r:=ii (-1)) rfl rfl rfl trivial rfl rfl ?_
  rfl
abbrev prD (z:Int × Int):D:=.agg [ii z.1,ii z.2]
def idxP (z:Int × Int):List (Int × Int) → Nat → Int
 | [],_ => -1
 | x :: r,i => if x = z then (i:Int) else idxP z r (i + 1)
theorem zpK (z:Int × Int):∀ (l:List (Int × Int)) (i:Nat),idxP z l i = if z ∈ l then ((i + l.findIdx (eqB z):Nat):Int) else -1
 | [],i => rfl
 | x :: r,i => by
  simp only [idxP]
  by_cases h:x = z
  ·subst h
   rw [if_pos rfl,if_pos (by simp)]
   simp [List.findIdx_cons,eqB]
  ·rw [if_neg h,zpK z r (i + 1)]
   by_cases hm:z ∈ r
   ·rw [if_pos hm,if_pos (by simp [hm])]
    have hz:¬ z = x:=fun e => h e.symm
    rw [List.findIdx_cons,show eqB z x = false by simp [eqB,hz]]
    simp only [cond_false]
    congr 1; omega
   ·rw [if_neg hm,if_neg (by simp [hm]; exact fun e => h e.symm)]
theorem zul (O:List Heap) (l:List (Int × Int)) (z:Int × Int) (e w:Nat) (ho:zaa O e w = some (zi8 l)) (hl:l.length ≤ 1000000):zan Tryz.prog 94 [.osl e w,prD z] O (ii (idxP z l 0)) [] O:=by
 have hO:∀ H,zaa (H :: O) (e + 1) w = some (zi8 l):=fun H => zaI ho
 generalize hR:idxP z l 0 = R
 obtain ⟨z1,z2⟩:=z
 refine zad Tk Tryz.func94 rfl Tryz.call94 Tryz.ntmps94 (Nat.le_of_ble_eq_true rfl) fun E => ?_
 refine zae Tk Tryz.func94 ?_
 refine zbg Tk Tryz.func94 (hO _) ?_
 refine zac ?_
 refine zah (fun i:Nat => [(0,.osl (e + 1) w),(3,.own 0 3 0 0),(7,ii l.length),(8,ii i)]) (fun _ => [(3,.box [ii z1,ii z2])]) (fun _ => O) 19
  (fun i => i ≤ l.length ∧ idxP (z1,z2) (l.drop i) i = R) (fun i => l.length - i) 0 ⟨Nat.zero_le _,hR⟩ ⟨rfl,rfl,rfl,rfl,trivial⟩ rfl ⟨rfl,trivial⟩ rfl rfl ?_
 rintro i ⟨hi,hno⟩ ih
 clear hR
 refine zae Tk Tryz.func94 ?_
 refine zai Tk Tryz.func94 rfl (fun g1 => ?_) (fun g1 => ?_)
 ·have h1:i < l.length:=by simpa using g1
  have ge:(l.map prI)[(i:Int).toNat]? = some (prI l[i]):=zaj h1
  have dl:l.drop i = l[i] :: l.drop (i + 1):=List.drop_eq_getElem_cons h1
  rw [dl] at hno
  simp only [idxP] at hno
  clear dl
  generalize l[i] = y at *
  obtain ⟨y1,y2⟩:=y
  have n1:0 ≤ (i:Int) ∧ (i:Int) < (l.length:Int):=by omega
  refine zaD Tk Tryz.func94 zaN rfl ?_
  refine zfU Tk (ho) ?_
  refine zaz Tk (by exact n1) ?_
  refine zfU Tk (ho) ?_
  refine zaJ Tk (ge) ?_
  refine zaS Tk Tryz.func94 (by kernel_rfl) ?_
  refine zai Tk Tryz.func94 rfl (fun g2 => ?_) (fun g2 => ?_)
  ·have g2:(z1 == y1) = true ∧ (z2 == y2) = true:=by simpa using g2
   have e1:z1 = y1:=by simpa using g2.1
   have e2:z2 = y2:=by simpa using g2.2
   rw [if_pos (by rw [e1,e2])] at hno
   subst hno
   refine zal Tk (r:=ii (i:Int)) rfl rfl rfl trivial rfl rfl ?_
   rfl
  ·have g2:¬ (y1,y2) = (z1,z2):=fun e => by
    injection e with e1 e2
    subst e1 e2
    simp at g2
   rw [if_neg g2] at hno
   refine zac ?_
   exact ih (i + 1) _ _ ⟨h1,hno⟩ (by omega) ⟨rfl,rfl,rfl,congrArg ii (zaB (n:=1000001) (by omega) (by decide)),trivial⟩ rfl ⟨rfl,trivial⟩ rfl rfl
 ·have h1:l.length ≤ i:=by simpa using g1
  rw [List.drop_eq_nil_of_le h1] at hno
  simp only [idxP] at hno
  subst hno
  refine zal Tk (r:=ii (-1)) rfl rfl rfl trivial rfl rfl ?_
  rfl
end Go.AI


namespace Go.AI
open Go.Proofs
set_option maxRecDepth 20000
theorem zva {x:Sys} {U:Unf (Int × Int)} (h:UOk (lpIn x) U):U.sts.length ≤ (lpV x).length:=zbl h.nd fun s hs => zgj (h.ok s hs)
set_option maxHeartbeats 16000000 in
theorem zpA (O:List Heap) (x:Sys) (h:smallS x) (hx:gSys x) (hV0:(lpV x).length ≤ 4095):zan Tryz.prog 42 [sysD x] O (.tup [autD (lpR x).1,.i (prsI (lpR x).2)]) [] O:=by
 have hal:=zaX (by decide) (zaK hx.p).1
 by_cases h0:0 < x.p.states ∧ 0 < x.s.states
 ·obtain ⟨V,hV1,hU⟩:=zgn hx h0 (by omega)
  have hF:=zl3 hx false (show (lpV x).length < 4096 by omega)
  have hlp:lpR x = (unfA x.p.alpha V,V.sts):=by unfold lpR; rw [if_pos h0,hV1]
  have hno:(Except.ok V:Except Int (Unf (Int × Int))) = zby eqB false (zdx x) (lpMk x) x.p.alpha (4097 - 0) 0 (unf0 ((0:Int),(0:Int))):=hV1.symm
  have hU0:UOk (lpIn x) (unf0 ((0:Int),(0:Int))):=⟨fun s hs => by
   rw [show s = (0,0) by simpa [unf0] using hs]
   exact ⟨⟨Int.le_refl _,h0.1⟩,Int.le_refl _,h0.2⟩,by simp [unf0],rfl⟩
  have hfew:∀ U:Unf (Int × Int),UOk (lpIn x) U → U.sts.length ≤ 4095:=fun U hU => Nat.le_trans (zva hU) hV0
  have hvok:=fun i s ev U V' hU hs hi hq => @zew (Int × Int) _ eqB false (zdx x) (lpIn x) hF i s ev U V' hU hs hi hq
  have s1:=fun O s e => zhc O x.p s e h.p.ed
  have s2:=fun O s e => zhc O x.s s e h.s.ed
  have m1:=fun O e => zbc O x.p.marked e (by have:=h.p.mkd; simp only [zas]; omega)
  have m2:=fun O e => zbc O x.s.marked e (by have:=h.s.mkd; simp only [zas]; omega)
  have hts:∀ z ev,zdx x z ev = ((stp3 x.p.edges z.1 ev,stp3 x.s.edges z.2 ev),decide (0 ≤ stp3 x.p.edges z.1 ev) && decide (0 ≤ stp3 x.s.edges z.2 ev),0):=fun z ev => rfl
  have hmr:∀ z,lpMk x z = (decide (z.1 ∈ x.p.marked) && decide (z.2 ∈ x.s.marked)):=fun z => rfl
  rw [hlp]
  unfold unfA
  generalize hR:(Except.ok V:Except Int (Unf (Int × Int))) = R at *
  clear hlp hV1 hU hF hV0 hx h
  generalize zdx x = ts at *
  generalize lpMk x = mr at *
  generalize lpIn x = P at *
  obtain ⟨⟨al,st,mk,es⟩,⟨al',st',mk',es'⟩,ob,ct⟩:=x
  simp only at h0 hal hts hmr s1 s2 m1 m2 hno ⊢
  refine zat [10,19,21] Tk Tryz.func42 rfl Tryz.call42 Tryz.ntmps42 (Nat.le_of_ble_eq_true rfl) fun E => ?_
  refine zae Tk Tryz.func42 ?_
  refine zaW Tk Tryz.func42 rfl (fun _ => ?_) (fun h => absurd h (by simp; omega))
  refine zai Tk Tryz.func42 rfl (fun _ => ?_) (fun h => absurd h (by simp; omega))
  refine zag Tk Tryz.func42 (by exact ⟨by decide,by decide⟩) ?_
  refine zac ?_
  refine zao (zcT 28 105 rfl rfl rfl) ?_
  refine zao (zaO 4 59 3 1 (pre:=[ints al,ii 0]) (post:=[.i (.v (.slice none 0 0))]) rfl rfl rfl) ?_
  refine zao (zaO 4 113 117 3 (pre:=[ints al,ii 0,.osl 0 59]) (post:=[]) rfl rfl rfl) ?_
  refine zah (fun x:Nat × Unf (Int × Int) => [(1,.own 0 1 0 0),(2,.own 0 2 0 0),(4,.own 0 4 0 0),(5,.osl 0 105),(6,ii x.1)])
   (fun x => [(1,.box (sysC ⟨⟨al,st,mk,es⟩,⟨al',st',mk',es'⟩,ob,ct⟩)),(2,.box [.i (.v (.slice none 0 0)),ii 0,.i (.v (.slice none 0 0)),.i (.v (.slice none 0 0))]),(4,.box [ints al,ii 0,.osl 0 59,.osl 0 113]),(105,zi8 x.2.sts),(59,zaw x.2.mkl),(113,zbD x.2.eds)]) (fun _ => O) 121
   (fun x => x.1 ≤ x.2.sts.length ∧ UOk P x.2 ∧ x.2.mkl.length ≤ x.1 ∧ x.2.eds.length ≤ 32 * x.1 ∧ R = zby eqB false ts mr al (4097 - x.1) x.1 x.2) (fun x => 4097 - x.1) (0,unf0 ((0:Int),(0:Int)))
   ⟨Nat.zero_le _,hU0,Nat.le_refl _,Nat.le_refl _,hno⟩ ⟨rfl,rfl,rfl,rfl,rfl,trivial⟩ rfl ⟨rfl,rfl,rfl,rfl,rfl,rfl,trivial⟩ rfl rfl ?_
  clear hno hU0 h0
  rintro ⟨i,U⟩ ⟨hi,hgd,hml,hel,hno⟩ ih
  simp only at hi hgd hml hel hno
  refine zae Tk Tryz.func42 ?_
  refine zai Tk Tryz.func42 rfl (fun g1 => ?_) (fun g1 => ?_)
  ·have h1:i < U.sts.length:=by simpa using g1
   clear g1
   have hle:=hfew U hgd
   have hsi:U.sts[i]? = some U.sts[i]:=List.getElem?_eq_getElem h1
   have gs:(U.sts.map prI)[(i:Int).toNat]? = some (prI U.sts[i]):=zaj h1
   have hoks:=hgd.ok _ (List.getElem_mem h1)
   generalize U.sts[i] = s at *
   have hno:R = match zau eqB false ts i s al (zbk mr i s U) with
     | .error e => .error e
     | .ok U' => zby eqB false ts mr al (4097 - (i + 1)) (i + 1) U':=by
    rw [hno,show 4097 - i = (4097 - (i + 1)) + 1 by omega]
    simp only [zby,hsi]
    cases zau eqB false ts i s al (zbk mr i s U) <;> rfl
   obtain ⟨m1',m2'⟩:=zb5 mr i s U
   have hM:UOk P (zbk mr i s U):=⟨by rw [m1']; exact hgd.ok,by rw [m1']; exact hgd.nd,by rw [m1',m2']; exact hgd.fr⟩
   have hm3:(zbk mr i s U).mkl = if mr s = true then U.mkl ++ [(i:Int)] else U.mkl:=by
    unfold zbk
    by_cases h:mr s = true <;> simp [h]
   generalize zbk mr i s U = U1 at *
   rw [hmr] at hm3
   obtain ⟨z1,z2⟩:=s
   simp only at hm3
   have d1:=fun O => m1 O z1
   have d2:=fun O => m2 O z2
   generalize decide (z1 ∈ mk) = B1 at *
   generalize decide (z2 ∈ mk') = B2 at *
   obtain ⟨sts,mkl,eds⟩:=U
   obtain ⟨sts1,mkl1,eds1⟩:=U1
   simp only at m1' m2' hm3 hsi gs hno h1 hle hel hml hi hgd
   subst m1' m2'
   have n1:0 ≤ (i:Int) ∧ (i:Int) < (sts1.length:Int):=by omega
   have hml1:mkl1.length ≤ i + 1:=by rw [hm3]; split; (rw [List.length_append,List.length_singleton]; omega); omega
   apply zcj (P:=True) (s6:={ σ:=[(1,.own 0 1 0 0),(2,.own 0 2 0 0),(4,.own 0 4 0 0),(5,.osl 0 105),(6,ii i)],S:=[(1,.box (sysC ⟨⟨al,st,mk,es⟩,⟨al',st',mk',es'⟩,ob,ct⟩)),(2,.box [.i (.v (.slice none 0 0)),ii 0,.i (.v (.slice none 0 0)),.i (.v (.slice none 0 0))]),(4,.box [ints al,ii 0,.osl 0 59,.osl 0 113]),(105,zi8 sts1),(59,zaw mkl1),(113,zbD eds1)] :: O,n:=121 })
   ·intro J
    refine zaD Tk Tryz.func42 zaN rfl ?_
    refine zaz Tk (by exact n1) ?_
    refine zaz Tk (by exact ⟨by decide,by decide⟩) ?_
    refine zaJ Tk (gs) ?_
    refine za2 Tk (fun _ => d1 _) rfl rfl rfl ?_
    refine zcW Tk (fun c1 => ?_) (fun c1 => ?_)
    ·have c1:B1 = true:=c1
     refine zaz Tk (by exact n1) ?_
     refine zaz Tk (by exact ⟨by decide,by decide⟩) ?_
     refine zaJ Tk (gs) ?_
     refine za2 Tk (fun _ => d2 _) rfl rfl rfl ?_
     refine zaS Tk Tryz.func42 (by kernel_rfl) ?_
     rw [c1,Bool.true_and] at hm3
     refine zai Tk Tryz.func42 rfl (fun c2 => ?_) (fun c2 => ?_)
     ·have c2:B2 = true:=c2
      rw [if_pos c2] at hm3
      refine zag Tk Tryz.func42 (by exact ⟨by show (mkl.length + 1) * 8 ≤ 140737488355328; omega,by show mkl.length + 1 ≤ 9223372036854775807; omega⟩) ?_
      refine zax ?_
      refine zaC (J trivial) ⟨rfl,rfl,rfl,rfl,rfl,trivial⟩ rfl ⟨rfl,rfl,rfl,rfl,by rw [hm3]; exact congrArg some (zaL mkl (i:Int)),rfl,trivial⟩ rfl rfl
     ·have c2:¬ B2 = true:=by rw [show B2 = false from c2]; decide
      rw [if_neg c2] at hm3
      refine zax ?_
      refine zaC (J trivial) ⟨rfl,rfl,rfl,rfl,rfl,trivial⟩ rfl ⟨rfl,rfl,rfl,rfl,by rw [hm3]; rfl,rfl,trivial⟩ rfl rfl
    ·have c1:B1 = false:=c1
     refine zaS Tk Tryz.func42 (by kernel_rfl) ?_
     rw [c1,Bool.false_and,if_neg (by decide)] at hm3
     refine gcF Tk Tryz.func42 rfl ?_
     refine zax ?_
     refine zaC (J trivial) ⟨rfl,rfl,rfl,rfl,rfl,trivial⟩ rfl ⟨rfl,rfl,rfl,rfl,by rw [hm3]; rfl,rfl,trivial⟩ rfl rfl
   intro _
   clear hm3 hml d1 d2 gs hgd m1 m2 hmr
   have hV0:zau eqB false ts i (z1,z2) al ⟨sts1,mkl1,eds1⟩ = zau eqB false ts i (z1,z2) (al.drop 0) ⟨sts1,mkl1,eds1⟩:=rfl
   generalize zau eqB false ts i (z1,z2) al ⟨sts1,mkl1,eds1⟩ = VV at *
   refine zae Tk Tryz.func42 ?_
   refine g_go Tk Tryz.func42 ?_
   refine zac ?_
   refine zah (fun x:Nat × Unf (Int × Int) => [(1,.own 0 1 0 0),(2,.own 0 2 0 0),(4,.own 0 4 0 0),(5,.osl 0 105),(6,ii i),(62,ints al),(63,ii al.length),(64,ii x.1)])
    (fun x => [(1,.box (sysC ⟨⟨al,st,mk,es⟩,⟨al',st',mk',es'⟩,ob,ct⟩)),(2,.box [.i (.v (.slice none 0 0)),ii 0,.i (.v (.slice none 0 0)),.i (.v (.slice none 0 0))]),(4,.box [ints al,ii 0,.osl 0 59,.osl 0 113]),(105,zi8 x.2.sts),(59,zaw x.2.mkl),(113,zbD x.2.eds)]) (fun _ => O) 121
    (fun x => x.1 ≤ al.length ∧ UOk P x.2 ∧ i < x.2.sts.length ∧ x.2.mkl = mkl1 ∧ x.2.eds.length ≤ 32 * i + x.1 ∧ x.2.sts[i]? = some (z1,z2) ∧ VV = zau eqB false ts i (z1,z2) (al.drop x.1) x.2) (fun x => al.length - x.1) (0,⟨sts1,mkl1,eds1⟩)
    ⟨Nat.zero_le _,hM,h1,rfl,hel,hsi,hV0⟩ ⟨rfl,rfl,rfl,rfl,rfl,rfl,rfl,rfl,trivial⟩ rfl ⟨rfl,rfl,rfl,rfl,rfl,rfl,trivial⟩ rfl rfl ?_
   clear hV0 hsi hel hle hM n1 h1
   rintro ⟨j,⟨sts,mk0,eds⟩⟩ ⟨hj,hgd,hil,hmke,hel,hsi,hV⟩ ih2
   simp only at hj hgd hil hmke hel hsi hV
   subst hmke
   have hle:=hfew _ hgd
   simp only at hle
   have hj1:ii (IntKind.i64.wrap ((j:Int) + 1)) = ii ((j + 1:Nat):Int):=congrArg ii (zaB (n:=4096) (by omega) (by decide))
   refine zae Tk Tryz.func42 ?_
   refine zai Tk Tryz.func42 rfl (fun g2 => ?_) (fun g2 => ?_)
   ·have h3:j < al.length:=by simpa using g2
    clear g2
    have ga:(al.map fun x => [vi x])[(j:Int).toNat]? = some [vi al[j]]:=zaj (f:=fun x => [vi x]) h3
    have da:al.drop j = al[j] :: al.drop (j + 1):=List.drop_eq_getElem_cons h3
    rw [da] at hV
    simp only [zau] at hV
    clear da
    generalize al[j] = e at *
    have gs:(sts.map prI)[(i:Int).toNat]? = some [vi z1,vi z2]:=by simp [hsi]
    have hvok:=fun V' h => hvok i (z1,z2) e ⟨sts,mk0,eds⟩ V' hgd hoks hil h
    unfold zbB at hV hvok
    rw [hts] at hV hvok
    simp only at hV hvok
    have d1:=fun O => s1 O z1 e
    have d2:=fun O => s2 O z2 e
    generalize stp3 es z1 e = t1 at *
    generalize stp3 es' z2 e = t2 at *
    have n3:0 ≤ (i:Int) ∧ (i:Int) < (sts.length:Int):=by omega
    refine zag Tk Tryz.func42 (by exact ⟨by omega,by show (j:Int) < (al.length:Int); omega⟩) ?_
    refine zap Tk Tryz.func42 (ga) ?_
    refine zaD Tk Tryz.func42 zaN rfl ?_
    refine zaz Tk (by exact n3) ?_
    refine zaz Tk (by exact ⟨by decide,by decide⟩) ?_
    refine zaJ Tk (gs) ?_
    refine za2 Tk (fun _ => d1 _) rfl rfl rfl ?_
    refine zaz Tk (by exact n3) ?_
    refine zaz Tk (by exact ⟨by decide,by decide⟩) ?_
    refine zaJ Tk (gs) ?_
    refine za2 Tk (fun _ => d2 _) rfl rfl rfl ?_
    refine zoX Tk rfl rfl rfl ?_
    refine zaS Tk Tryz.func42 (by kernel_rfl) ?_
    have hix:=zpK (t1,t2) sts 0
    clear d1 d2 gs
    refine zag Tk Tryz.func42 (by exact ⟨by decide,by decide⟩) ?_
    refine zaW Tk Tryz.func42 rfl (fun c1 => ?_) (fun c1 => ?_)
    ·have c1:t1 < 0:=of_decide_eq_true c1
     rw [decide_eq_false (show ¬ 0 ≤ t1 by omega),Bool.false_and] at hV
     simp only [ne_eq,not_true,if_false,if_true] at hV
     clear hvok
     refine gcT Tk Tryz.func42 rfl ?_
     refine zac ?_
     exact ih2 (j + 1,⟨sts,mk0,eds⟩) _ _ ⟨h3,hgd,hil,rfl,by simp only; omega,hsi,hV⟩ (by simp only; omega) ⟨rfl,rfl,rfl,rfl,rfl,rfl,rfl,hj1,trivial⟩ rfl ⟨rfl,rfl,rfl,rfl,rfl,rfl,trivial⟩ rfl rfl
    have c1:¬ t1 < 0:=of_decide_eq_false c1
    rw [decide_eq_true (show 0 ≤ t1 by omega),Bool.true_and] at hV hvok
    refine zag Tk Tryz.func42 (by exact ⟨by decide,by decide⟩) ?_
    refine zai Tk Tryz.func42 rfl (fun c2 => ?_) (fun c2 => ?_)
    ·have c2:t2 < 0:=of_decide_eq_true c2
     rw [decide_eq_false (show ¬ 0 ≤ t2 by omega)] at hV
     simp only [ne_eq,not_true,if_false,if_true] at hV
     clear hvok
     refine zac ?_
     exact ih2 (j + 1,⟨sts,mk0,eds⟩) _ _ ⟨h3,hgd,hil,rfl,by simp only; omega,hsi,hV⟩ (by simp only; omega) ⟨rfl,rfl,rfl,rfl,rfl,rfl,rfl,hj1,trivial⟩ rfl ⟨rfl,rfl,rfl,rfl,rfl,rfl,trivial⟩ rfl rfl
    have c2:¬ t2 < 0:=of_decide_eq_false c2
    rw [decide_eq_true (show 0 ≤ t2 by omega)] at hV hvok
    simp only [ne_eq,not_true,if_false,Bool.true_eq_false,Bool.false_eq_true,false_and] at hV hvok
    clear c1 c2
    obtain ⟨t,ht⟩:∃ t,t = sts.findIdx (eqB (t1,t2)):=⟨_,rfl⟩
    rw [← ht] at hV hvok hix
    rw [Nat.zero_add] at hix
    obtain ⟨sts2,hst3⟩:∃ sts2,sts2 = if (t1,t2) ∈ sts then sts else sts ++ [(t1,t2)]:=⟨_,rfl⟩
    have hU2:VV = zau eqB false ts i (z1,z2) (al.drop (j + 1)) ⟨sts2,mk0,eds ++ [((i:Int),e,(t:Int))]⟩ ∧ UOk P ⟨sts2,mk0,eds ++ [((i:Int),e,(t:Int))]⟩ ∧ i < sts2.length ∧ sts2[i]? = some (z1,z2):=by
     by_cases hm:(t1,t2) ∈ sts
     ·have hlt:t < sts.length:=by rw [ht]; exact zcv ⟨(t1,t2),hm,by simp [eqB]⟩
      rw [if_pos hm] at hst3
      rw [if_pos hlt] at hV hvok
      subst hst3
      have h:=hvok _ rfl
      exact ⟨hV,h.1,h.2.1,h.2.2.trans hsi⟩
     ·have hlt:t = sts.length:=by
       rw [ht]
       exact za4 fun x hx => by simp only [eqB,decide_eq_false_iff_not]; rintro rfl; exact hm hx
      rw [if_neg hm] at hst3
      rw [if_neg (by omega)] at hV hvok
      subst hst3
      have h:=hvok _ rfl
      exact ⟨hV,h.1,h.2.1,h.2.2.trans hsi⟩
    have htm:(t1,t2) ∉ sts → t = sts.length:=fun hm => by
     rw [ht]
     exact za4 fun x hx => by simp only [eqB,decide_eq_false_iff_not]; rintro rfl; exact hm hx
    have hic:=fun O ho => zul O sts (t1,t2) 0 105 ho (by omega)
    clear hV hvok ht
    generalize idxP (t1,t2) sts 0 = ix at *
    have hq1:ix < 0 → t = sts.length ∧ sts2 = sts ++ [(t1,t2)]:=fun h => by
     have c2:(t1,t2) ∉ sts:=fun hm => by
      rw [if_pos hm] at hix; omega
     exact ⟨htm c2,by rw [hst3,if_neg c2]⟩
    have hq2:¬ ix < 0 → ix = t ∧ sts2 = sts:=fun h => by
     have c2:(t1,t2) ∈ sts:=Classical.byContradiction fun hm => by
      rw [if_neg hm] at hix; omega
     exact ⟨by rw [hix,if_pos c2],by rw [hst3,if_pos c2]⟩
    clear hix htm hst3
    apply zcj (P:=True) (s6:={ σ:=[(1,.own 0 1 0 0),(2,.own 0 2 0 0),(4,.own 0 4 0 0),(5,.osl 0 105),(6,ii i),(62,ints al),(63,ii al.length),(64,ii j),(8,ii e),(10,ii t)],S:=[(1,.box (sysC ⟨⟨al,st,mk,es⟩,⟨al',st',mk',es'⟩,ob,ct⟩)),(2,.box [.i (.v (.slice none 0 0)),ii 0,.i (.v (.slice none 0 0)),.i (.v (.slice none 0 0))]),(4,.box [ints al,ii 0,.osl 0 59,.osl 0 113]),(105,zi8 sts2),(59,zaw mk0),(113,zbD eds)] :: O,n:=121 })
    ·intro J
     refine zaf Tk Tryz.func42 (hic _ rfl) rfl rfl rfl rfl rfl ?_
     refine zai Tk Tryz.func42 rfl (fun c1 => ?_) (fun c1 => ?_)
     ·have c1:=hq1 (of_decide_eq_true c1)
      refine zag Tk Tryz.func42 (by exact ⟨by show (sts.length + 1) * 16 ≤ 140737488355328; omega,by show sts.length + 1 ≤ 9223372036854775807; omega⟩) ?_
      refine zax ?_
      refine zaC (J trivial) ⟨rfl,rfl,rfl,rfl,rfl,rfl,rfl,rfl,rfl,by rw [c1.1]; rfl,trivial⟩ rfl ⟨rfl,rfl,rfl,by rw [c1.2]; exact congrArg some (zi7 sts (t1,t2)),rfl,rfl,trivial⟩ rfl rfl
     ·have c1:=hq2 (of_decide_eq_false c1)
      refine zax ?_
      refine zaC (J trivial) ⟨rfl,rfl,rfl,rfl,rfl,rfl,rfl,rfl,rfl,congrArg ii c1.1,trivial⟩ rfl ⟨rfl,rfl,rfl,by rw [c1.2]; rfl,rfl,rfl,trivial⟩ rfl rfl
    intro _
    obtain ⟨hV,hg2,hi2,hs2⟩:=hU2
    clear hgd hil hsi hic hq1 hq2
    refine zae Tk Tryz.func42 ?_
    refine g_go Tk Tryz.func42 ?_
    refine zag Tk Tryz.func42 (by exact ⟨by show (eds.length + 1) * 24 ≤ 140737488355328; omega,by show eds.length + 1 ≤ 9223372036854775807; omega⟩) ?_
    refine zac ?_
    exact ih2 (j + 1,⟨sts2,mk0,eds ++ [((i:Int),e,(t:Int))]⟩) _ _ ⟨h3,hg2,hi2,rfl,by simp only [List.length_append,List.length_singleton]; omega,hs2,hV⟩ (by simp only; omega) ⟨rfl,rfl,rfl,rfl,rfl,rfl,rfl,hj1,trivial⟩ rfl ⟨rfl,rfl,rfl,rfl,rfl,congrArg some (zc0 eds ((i:Int),e,(t:Int))),trivial⟩ rfl rfl
   ·have h3:al.length ≤ j:=by simpa using g2
    rw [List.drop_eq_nil_of_le h3] at hV
    simp only [zau] at hV
    subst hV
    simp only at hno
    refine zac ?_
    exact ih (i + 1,⟨sts,mk0,eds⟩) _ _ ⟨by simp only; omega,hgd,hml1,by simp only; omega,hno⟩ (by simp only; omega) ⟨rfl,rfl,rfl,rfl,congrArg ii (zaB (n:=4096) (by omega) (by decide)),trivial⟩ rfl ⟨rfl,rfl,rfl,rfl,rfl,rfl,trivial⟩ rfl rfl
  ·have h1:U.sts.length ≤ i:=by simpa using g1
   rw [zdJ h1] at hno
   rw [← hR] at hno
   simp only [Except.ok.injEq] at hno
   subst hno
   obtain ⟨sts,mk0,eds⟩:=V
   refine zax ?_
   refine zao (zam 105 rfl rfl) ?_
   refine zao (zam 59 rfl rfl) ?_
   refine zao (zam 113 rfl rfl) ?_
   refine zae Tk Tryz.func42 ?_
   refine g_go Tk Tryz.func42 ?_
   refine zal Tk (r:=.tup [autD ⟨al,sts.length,mk0,eds⟩,.i (prsI sts)]) rfl rfl rfl trivial rfl rfl ?_
   rfl
 ·have hlp:lpR x = (⟨x.p.alpha,0,[],[]⟩,[]):=by unfold lpR; rw [if_neg h0]
  rw [hlp]
  clear hlp
  obtain ⟨⟨al,st,mk,es⟩,⟨al',st',mk',es'⟩,ob,ct⟩:=x
  simp only at h0 ⊢
  refine zat [] Tk Tryz.func42 rfl Tryz.call42 Tryz.ntmps42 (Nat.le_of_ble_eq_true rfl) fun E => ?_
  refine zae Tk Tryz.func42 ?_
  refine zaW Tk Tryz.func42 rfl (fun c1 => ?_) (fun c1 => ?_)
  ·have c1:st > 0:=of_decide_eq_true c1
   refine zai Tk Tryz.func42 rfl (fun h => absurd h (by simp; omega)) (fun _ => ?_)
   refine zac ?_
   refine zae Tk Tryz.func42 ?_
   refine gcF Tk Tryz.func42 rfl ?_
   refine zb2 Tk (r:=.tup [.agg [ints al,ii 0,.i (.v (.slice none 0 0)),.i (.v (.slice none 0 0))],.i (.v (.slice none 0 0))]) rfl rfl rfl trivial rfl rfl ?_
   repeat' (first | refine zcR ?_ | refine zcS ?_ | refine zfi ?_ | refine CoDL.cons ?_ ?_ | exact CoDL.nil | exact zbZ | refine zdF ?_ | refine CoLL.cons ?_ ?_ | exact CoLL.nil | refine CoL.cons ?_ ?_ | exact CoL.nil | exact CoI.refl _ | exact CoL.refl _ | exact CoLL.refl _ | exact CoDL.refl _ | exact CoD.refl _)
  ·refine gcF Tk Tryz.func42 rfl ?_
   refine zac ?_
   refine zae Tk Tryz.func42 ?_
   refine gcF Tk Tryz.func42 rfl ?_
   refine zb2 Tk (r:=.tup [.agg [ints al,ii 0,.i (.v (.slice none 0 0)),.i (.v (.slice none 0 0))],.i (.v (.slice none 0 0))]) rfl rfl rfl trivial rfl rfl ?_
   repeat' (first | refine zcR ?_ | refine zcS ?_ | refine zfi ?_ | refine CoDL.cons ?_ ?_ | exact CoDL.nil | exact zbZ | refine zdF ?_ | refine CoLL.cons ?_ ?_ | exact CoLL.nil | refine CoL.cons ?_ ?_ | exact CoL.nil | exact CoI.refl _ | exact CoL.refl _ | exact CoLL.refl _ | exact CoDL.refl _ | exact CoD.refl _)
end Go.AI


namespace Go.AI
open Go.Proofs
set_option maxRecDepth 20000
theorem zjf {s:List Int} {gs gm:Int} {gt:Nat → Int} (hs:s.Pairwise (· < ·)) (hr:∀ x ∈ s,0 ≤ x ∧ x < 32) (hsl:s.length ≤ 5) (hg:∀ j,0 ≤ gt j ∧ gt j ≤ 255) :
  chkA (mkA s gs gm gt) = 0 ∧ smallA (mkA s gs gm gt) ∧ (mkA s gs gm gt).states ≤ 5 ∧ (mkA s gs gm gt).alpha = s:=by
 obtain ⟨_,⟨n,hn,h⟩,h3⟩:=zpw (gs:=gs) (gm:=gm) hs hr hsl hg
 exact ⟨h.c,h.sm,by rw [h.st]; omega,h3⟩
theorem zpN {l s:List Int} (hs:s.Pairwise (· < ·)) (hr:∀ x ∈ s,0 ≤ x ∧ x < 32):zak 32 (hasR l s) none = 0:=zbi (hs.filter _) (fun x hx => hr x (List.mem_filter.1 hx).1) (fun y e => by cases e)
theorem zlZ {x:Sk} (h:skOkB x):gSys (mkS x) ∧ smallS (mkS x) ∧ ((mkS x).p.states ≤ 5 ∧ (mkS x).s.states ≤ 5):=by
 obtain ⟨e1,e2,e3⟩:=zjt x.st
 obtain ⟨p1,p2,p3,p4⟩:=zjf (gs:=x.ps) (gm:=x.pm) e1 e2 e3 h.p.2
 obtain ⟨s1,s2,s3,s4⟩:=zjf (gs:=x.ss) (gm:=x.sm) e1 e2 e3 h.s.2
 obtain ⟨o1,o2,o3⟩:=zjt x.ob
 obtain ⟨c1,c2,c3⟩:=zjt x.ct
 have hin:∀ s:List Int,∀ e ∈ hasR (zbd x.st) s,e ∈ zbd x.st:=fun s e he => of_decide_eq_true (List.mem_filter.1 he).2
 refine ⟨⟨p1,s1,s4.trans p4.symm,zpN o1 o2,zpN c1 c2,?_,?_⟩,⟨p2,s2,?_,?_⟩,p3,s3⟩
 ·intro e he
  rw [show (mkS x).p.alpha = zbd x.st from p4]
  exact hin _ e he
 ·intro e he
  rw [show (mkS x).p.alpha = zbd x.st from p4]
  exact hin _ e he
 ·have:(hasR (zbd x.st) (zbd x.ob)).length ≤ (zbd x.ob).length:=List.length_filter_le _ _
  show (hasR (zbd x.st) (zbd x.ob)).length ≤ 1000000
  omega
 ·have:(hasR (zbd x.st) (zbd x.ct)).length ≤ (zbd x.ct).length:=List.length_filter_le _ _
  show (hasR (zbd x.st) (zbd x.ct)).length ≤ 1000000
  omega
theorem zt1 {x:Sk} (h:skOkB x):(lpV (mkS x)).length ≤ 25:=by
 obtain ⟨_,_,h1,h2⟩:=zlZ h
 rw [zgo]
 exact Nat.le_trans (Nat.mul_le_mul (show (mkS x).p.states.toNat ≤ 5 by omega) (show (mkS x).s.states.toNat ≤ 5 by omega)) (by decide)
theorem zvq (O:List Heap) (x:Sk) (h:skOkB x):zan Tryz.prog 13 [.agg (skC x)] O (bb (decide ((lpR (mkS x)).1.states ≤ 10))) [] O:=by
 have h1:=fun O => zsY O x h
 obtain ⟨m1,m2,_⟩:=zlZ h
 have h2:=fun O => zpA O (mkS x) m2 m1 (by have:=zt1 h; omega)
 clear m1 m2 h
 generalize lpR (mkS x) = L at *
 generalize mkS x = X at *
 obtain ⟨⟨lal,lst,lmk,les⟩,prs⟩:=L
 obtain ⟨⟨al,st,mk,es⟩,⟨al',st',mk',es'⟩,ob,ct⟩:=X
 obtain ⟨xst,xps,xpm,xpt,xss,xsm,xt2,xob,xct⟩:=x
 simp only at h1 h2 ⊢
 refine zad Tk Tryz.func13 rfl Tryz.call13 Tryz.ntmps13 (Nat.le_of_ble_eq_true rfl) fun E => ?_
 refine zae Tk Tryz.func13 ?_
 refine zaf Tk Tryz.func13 (h1 _) rfl rfl rfl rfl rfl ?_
 refine zaf Tk Tryz.func13 (h2 _) rfl rfl rfl rfl rfl ?_
 refine zal Tk (r:=bb (decide (lst ≤ 10))) rfl rfl rfl trivial rfl rfl ?_
 rfl
def runI (es:List Edg):Int → List Int → Int
 | s,[] => s
 | s,e :: r => if stp3 es s e < 0 then -1 else runI es (stp3 es s e) r
end Go.AI


namespace Go.AI
open Go.Proofs
set_option maxRecDepth 20000
end Go.AI


namespace Go.AI
section
variable {c:Cx} {s:St} {H:Heap} {O:List Heap}
end
end Go.AI


namespace Go.AI
open Go.Proofs
set_option maxRecDepth 20000
end Go.AI


namespace Go.AI
open Go.Proofs
set_option maxRecDepth 20000
theorem zsL {x:Sk} (h:skOkB x) (hf:(lpR (mkS x)).1.states ≤ 10):(lpR (mkS x)).2.length ≤ 10:=by
 obtain ⟨m1,m2,_⟩:=zlZ h
 have:=(lp_g m1 (by have:=zt1 h; omega)).1.st
 omega
end Go.AI


namespace Go.Proofs.YtlcekmemdnjjbaaGreatDoor
open Go.ChangeShapes Go.WideShapes Go.ChangeAt Go.RowKit Go.Deep Go.WideElems
set_option maxRecDepth 100000
section
variable {H:Type} {enc:TypeId × Value → H} {P:Program} {W:World}
theorem znw {t e:TypeId} {m z:Nat} {R:List AI.I → Prop} (ht:P.underlying t = some (.array m e)) (hc:P.cellsOf e = z) (hct:P.cellsOf t = m * z) (he:Opn enc P W e R) :
  Opn enc P W t fun is => ∃ xs:List (List AI.I),xs.length = m ∧ is = xs.flatten ∧ ∀ x ∈ xs,R x:=by
 intro n cs x h
 obtain ⟨xs,f,rfl,rfl,hl,hlen,hx⟩:=DataW.trod_array ht h
 rw [hct] at hl
 have build:∀ k,k ≤ m → ∃ ys:List (List AI.I),ys.length = k ∧ AI.RepL (KW W) (cs.take (k * z)) ys.flatten ∧ ∀ y ∈ ys,R y:=by
  intro k
  induction k with
  | zero => intro _; exact ⟨[],rfl,by rw [Nat.zero_mul,List.take_zero]; exact .nil,by simp⟩
  | succ k ih =>
   intro hk
   obtain ⟨ys,h1,h2,h3⟩:=ih (by omega)
   have h0:=hx k (by omega)
   rw [hc,List.getElem?_eq_getElem (by omega)] at h0
   obtain ⟨is,hr,hR⟩:=he _ _ _ h0
   refine ⟨ys ++ [is],by simp [h1],?_,fun y hy => ?_⟩
   ·rw [Nat.succ_mul,List.take_add,List.flatten_append]
    simpa using zfA h2 hr
   ·rcases List.mem_append.1 hy with hy | hy
    ·exact h3 y hy
    ·rw [List.mem_singleton] at hy
     subst hy
     exact hR
 obtain ⟨ys,h1,h2,h3⟩:=build m (Nat.le_refl _)
 rw [List.take_of_length_le (by omega)] at h2
 exact ⟨_,h2,ys,h1,rfl,h3⟩
theorem zp3:∀ {xs:List (List AI.I)},(∀ x ∈ xs,∃ zs:List Int,zs.length = 5 ∧ x = zs.map (fun z => AI.I.v (.int .u8 z)) ∧ ∀ z ∈ zs,(Lit.int .u8 z).wf = true) → ∃ L:List Int,L.length = 5 * xs.length ∧ xs.flatten = L.map (fun z => AI.I.v (.int .u8 z)) ∧ ∀ z ∈ L,0 ≤ z ∧ z ≤ 255
 | [],_ => ⟨[],rfl,rfl,by simp⟩
 | x :: r,h => by
  obtain ⟨zs,h1,h2,h3⟩:=h x (by simp)
  obtain ⟨L,g1,g2,g3⟩:=zp3 (xs:=r) fun y hy => h y (by simp [hy])
  refine ⟨zs ++ L,by rw [List.length_append,h1,g1,List.length_cons]; omega,by rw [List.flatten_cons,h2,g2,List.map_append],fun z hz => ?_⟩
  rcases List.mem_append.1 hz with hz | hz
  ·exact wf_u8 (h3 z hz)
  ·exact g3 z hz
def OpnB (enc:TypeId × Value → H) (P:Program) (W:World) (N:Nat) (t:TypeId) (R:List AI.I → Prop):Prop:=
 ∀ n,n < N → ∀ cs x,DataW.trod enc P W 0 (fun _ => true) true n t cs = some x → ∃ is,AI.RepL (KW W) cs is ∧ R is
theorem Opn.b {t:TypeId} {R:List AI.I → Prop} (h:Opn enc P W t R) (N:Nat):OpnB enc P W N t R:=fun n _ cs x hx => h n cs x hx
theorem Opn.ofB {t:TypeId} {R:List AI.I → Prop} (h:∀ N,OpnB enc P W N t R):Opn enc P W t R:=fun n cs x hx => h (n + 1) n (Nat.lt_succ_self n) cs x hx
theorem OpnB.less {t:TypeId} {R:List AI.I → Prop} {N:Nat} (h:OpnB enc P W (N + 1) t R):OpnB enc P W N t R:=fun n hn cs x hx => h n (by omega) cs x hx
def AllP:List (List AI.I → Prop) → List (List AI.I) → Prop
 | [],[] => True
 | R :: Rs,a :: l => R a ∧ AllP Rs l
 | _,_ => False
def FldB (enc:TypeId × Value → H) (P:Program) (W:World) (N:Nat):List Field → List (List AI.I → Prop) → Prop
 | [],[] => True
 | f :: fs,R :: Rs => OpnB enc P W N f.type R ∧ FldB enc P W N fs Rs
 | _,_ => False
def SeqB (P:Program):Nat → List Field → Nat → Bool
 | o,[],n => o == n
 | o,f :: fs,n => f.offset == o && SeqB P (o + P.cellsOf f.type) fs n
theorem zhz {N n:Nat} (hn:n < N) {cs:List Value}:∀ {fs:List Field} {Rs:List (List AI.I → Prop)} {o:Nat},FldB enc P W N fs Rs → SeqB P o fs cs.length = true →
  (∀ f ∈ fs,∃ y,DataW.trod enc P W 0 (fun _ => true) true n f.type ((cs.drop f.offset).take (P.cellsOf f.type)) = some y) → ∃ parts,AI.RepL (KW W) (cs.drop o) parts.flatten ∧ AllP Rs parts
 | [],[],o,_,hs,_ => by
  have:o = cs.length:=by simpa [SeqB] using hs
  subst this
  exact ⟨[],by simpa using AI.RepL.nil,trivial⟩
 | f :: fs,R :: Rs,o,⟨hf,hF⟩,hs,hx => by
  simp only [SeqB,Bool.and_eq_true,beq_iff_eq] at hs
  obtain ⟨rfl,hs⟩:=hs
  obtain ⟨y,hy⟩:=hx f (by simp)
  obtain ⟨a,ra,ha⟩:=hf n hn _ _ hy
  obtain ⟨parts,rp,hp⟩:=zhz hn hF hs fun g hg => hx g (by simp [hg])
  refine ⟨a :: parts,?_,ha,hp⟩
  have e:cs.drop f.offset = (cs.drop f.offset).take (P.cellsOf f.type) ++ cs.drop (f.offset + P.cellsOf f.type):=by
   rw [← List.drop_drop,List.take_append_drop]
  rw [e,List.flatten_cons]
  exact zfA ra rp
 | [],_ :: _,_,h,_,_ => h.elim
 | _ :: _,[],_,h,_,_ => h.elim
theorem zj3 {t:TypeId} {fs:Array Field} {Rs:List (List AI.I → Prop)} {N:Nat} (ht:P.underlying t = some (.struct fs)) (hs:SeqB P 0 fs.toList (P.cellsOf t) = true) (hf:FldB enc P W N fs.toList Rs) :
  OpnB enc P W (N + 1) t fun is => ∃ parts,is = parts.flatten ∧ AllP Rs parts:=by
 intro n hn cs x h
 obtain ⟨xs,m,rfl,rfl,hl,hlen,hx⟩:=DataW.trod_struct ht h
 rw [← hl] at hs
 obtain ⟨parts,hr,hp⟩:=zhz (n:=m) (by omega) hf hs fun f hfm => by
  obtain ⟨i,hi,e⟩:=List.mem_iff_getElem.1 hfm
  have h1:=hx i f (by rw [← e]; simp)
  rw [h1]
  have:i < xs.length:=by rw [hlen]; simpa using hi
  exact ⟨xs[i],by simp [this]⟩
 exact ⟨_,by simpa using hr,parts,rfl,hp⟩
end
section
variable {H:Type} {enc:TypeId × Value → H} {W:World}
abbrev u8V (z:Int):AI.I:=AI.I.v (.int .u8 z)
theorem opn_graph:Opn enc Tryz.prog W 26 fun is => ∃ (x y:Int) (L:List Int),is = [u8V x,u8V y] ++ L.map u8V ∧ 0 ≤ x ∧ L.length = 25 ∧ ∀ z ∈ L,0 ≤ z ∧ z ≤ 255:=by
 intro n cs y hn
 obtain ⟨is,hr,a,b,c,rfl,⟨x,rfl,hx⟩,⟨y,rfl,_⟩,⟨xs,h5,rfl,hxs⟩⟩:=zj2 Tryz.underlying26 (z0:=1) (z1:=1) (z2:=25) (by kernel_rfl) (by kernel_rfl) (by kernel_rfl) (by kernel_rfl) rfl rfl rfl
  (zgc Tryz.underlying5) (zgc Tryz.underlying5) (znw Tryz.underlying24 (z:=5) (by kernel_rfl) (by kernel_rfl) (zpi Tryz.underlying23 Tryz.underlying5 (by kernel_rfl) (by kernel_rfl))) n _ _ hn
 obtain ⟨L,g1,g2,g3⟩:=zp3 hxs
 rw [h5] at g1
 rw [g2] at hr
 exact ⟨_,hr,x,y,L,rfl,(wf_u8 hx).1,g1,g3⟩
theorem zpQ {L:List Int} (h:∀ z ∈ L,0 ≤ z ∧ z ≤ 255) (j:Nat):0 ≤ L.getD j 0 ∧ L.getD j 0 ≤ 255:=by
 rw [List.getD_eq_getElem?_getD]
 cases hj:L[j]? with
 | none => exact ⟨by decide,by decide⟩
 | some z => exact h z (List.mem_of_getElem? hj)
end
end Go.Proofs.YtlcekmemdnjjbaaGreatDoor


namespace Go.Proofs.YtlcekmemdnjjbaaGreatDoor
open Go.ChangeShapes Go.WideShapes Go.ChangeAt Go.RowKit Go.Deep Go.WideElems
set_option maxRecDepth 100000
section
variable {H:Type} {enc:TypeId × Value → H} {W:World}
theorem zi9 {r:Reach} {b0:Nat} {v:Value} {d:DataW H} {p:List MemPlace} (hv:Value.okWide Tryz.prog W r b0 28 v) (h:DataW.Trod enc Tryz.prog W 0 (fun _ => true) true 28 v d p) :
  ∃ x:AI.Sk,(AI.skOkB x ∧ (0 ≤ x.ob ∧ x.ob ≤ 255) ∧ 0 ≤ x.ct ∧ x.ct ≤ 255) ∧ ∀ ρ sh,AI.RepD (KW W) ρ sh v (.agg (AI.skC x)):=by
 obtain ⟨cs,rfl,_⟩:=okWide_struct Tryz.underlying28 hv
 obtain ⟨n,hn⟩:=h
 have hop:Opn enc Tryz.prog W 28 fun is => ∃ parts,is = parts.flatten ∧ AllP [_,_,_,_,_] parts:=Opn.ofB fun N => (zj3 (Rs:=[_,_,_,_,_]) Tryz.underlying28 (by kernel_rfl) ⟨(zgc Tryz.underlying22).b N,opn_graph.b N,opn_graph.b N,(zgc Tryz.underlying22).b N,(zgc Tryz.underlying22).b N,trivial⟩).less
 obtain ⟨is,hr,parts,rfl,hp⟩:=hop n _ _ hn
 match parts,hp with
 | [_,_,_,_,_],⟨⟨st,e1,_⟩,⟨ps,pm,L,e2,hps,hL,hLb⟩,⟨ss,sm,M,e3,hss,hM,hMb⟩,⟨ob,e4,hob⟩,⟨ct,e5,hct⟩,_⟩ =>
  subst e1 e2 e3 e4 e5
  refine ⟨⟨st,ps,pm,fun j => L.getD j 0,ss,sm,fun j => M.getD j 0,ob,ct⟩,⟨⟨⟨hps,zpQ hLb⟩,⟨hss,zpQ hMb⟩⟩,wf_u8 hob,wf_u8 hct⟩,fun ρ sh => ?_⟩
  have:=AI.RepD.agg (AI.RepDL.ofL (ρ:=ρ) (sh:=sh) hr)
  match L,hL,M,hM with
  | [a0,a1,a2,a3,a4,a5,a6,a7,a8,a9,a10,a11,a12,a13,a14,a15,a16,a17,a18,a19,a20,a21,a22,a23,a24],_,[b0,b1,b2,b3,b4,b5,b6,b7,b8,b9,b10,b11,b12,b13,b14,b15,b16,b17,b18,b19,b20,b21,b22,b23,b24],_ => exact this
end
end Go.Proofs.YtlcekmemdnjjbaaGreatDoor


namespace Go.AI
def cmpI (x y:Int):Int:=if x < y then -1 else if x > y then 1 else 0
def cmpL:List Int → List Int → Int
 | [],[] => 0
 | [],_ :: _ => -1
 | _ :: _,[] => 1
 | a :: r,b :: s => if cmpI a b ≠ 0 then cmpI a b else cmpL r s
def cmpW (a b:List Int):Int:=if cmpI a.length b.length ≠ 0 then cmpI a.length b.length else cmpL a b
def rkA:Nat → List Int → Nat
 | r,[] => r
 | r,e :: w => rkA (r * 33 + e.toNat + 1) w
abbrev rk (w:List Int):Nat:=rkA 0 w
abbrev inW (w:List Int):Prop:=∀ x ∈ w,0 ≤ x ∧ x < 32
theorem zlN:∀ (w:List Int) (r:Nat) (e:Int),rkA r (w ++ [e]) = rkA r w * 33 + e.toNat + 1
 | [],r,e => rfl
 | x :: w,r,e => by
  simp only [List.cons_append,rkA]
  exact zlN w _ e
theorem zcw (w:List Int) (e:Int):rk (w ++ [e]) = rk w * 33 + e.toNat + 1:=zlN w 0 e
theorem zhX:∀ {a b:List Int} {r s:Nat},inW a → a.length = b.length → r < s → rkA r a < rkA s b
 | [],[],_,_,_,_,h => h
 | [],_ :: _,_,_,_,h,_ => by simp at h
 | _ :: _,[],_,_,_,h,_ => by simp at h
 | x :: a,y :: b,r,s,ha,hl,h => by
  simp only [rkA]
  have:=ha x (by simp)
  exact zhX (fun z hz => ha z (by simp [hz])) (by simpa using hl) (by omega)
theorem zgO (x:Int):cmpI x x = 0:=by unfold cmpI; rw [if_neg (by omega),if_neg (by omega)]
theorem zqt:∀ {a b:List Int} {r:Nat},inW a → inW b → a.length = b.length → cmpL a b = cmpI (rkA r a:Int) (rkA r b:Int)
 | [],[],r,_,_,_ => by rw [cmpL,rkA,zgO]
 | [],_ :: _,_,_,_,h => by simp at h
 | _ :: _,[],_,_,_,h => by simp at h
 | x :: a,y :: b,r,ha,hb,hl => by
  have hx:=ha x (by simp)
  have hy:=hb y (by simp)
  have ha':inW a:=fun z hz => ha z (by simp [hz])
  have hb':inW b:=fun z hz => hb z (by simp [hz])
  have hl':a.length = b.length:=by simpa using hl
  simp only [cmpL,rkA]
  rcases Int.lt_trichotomy x y with h | h | h
  ·have h1:cmpI x y = -1:=by unfold cmpI; rw [if_pos h]
   rw [h1,if_pos (by decide)]
   have:=zhX (r:=r * 33 + x.toNat + 1) (s:=r * 33 + y.toNat + 1) ha' hl' (by omega)
   unfold cmpI
   rw [if_pos (by omega)]
  ·subst h
   rw [zgO,if_neg (by simp)]
   exact zqt ha' hb' hl'
  ·have h1:cmpI x y = 1:=by unfold cmpI; rw [if_neg (by omega),if_pos h]
   rw [h1,if_pos (by decide)]
   have:=zhX (r:=r * 33 + y.toNat + 1) (s:=r * 33 + x.toNat + 1) hb' hl'.symm (by omega)
   unfold cmpI
   rw [if_neg (by omega),if_pos (by omega)]
theorem zcq (w:List Int):w = [] ∨ ∃ v e,w = v ++ [e]:=by
 by_cases h:w = []
 ·exact .inl h
 ·exact .inr ⟨w.dropLast,w.getLast h,(List.dropLast_concat_getLast h).symm⟩
theorem zlL:∀ (n:Nat) {a b:List Int},a.length ≤ n → inW a → a.length < b.length → rk a < rk b
 | n,a,b,hn,ha,hl => by
  rcases zcq b with rfl | ⟨v,f,rfl⟩
  ·simp at hl
  rw [zcw]
  rcases zcq a with rfl | ⟨u,e,rfl⟩
  ·show rkA 0 [] < _
   rw [rkA]
   omega
  ·cases n with
   | zero => simp at hn
   | succ n =>
    rw [zcw]
    simp only [List.length_append,List.length_singleton] at hl hn
    have:=zlL n (a:=u) (b:=v) (by omega) (fun z hz => ha z (by simp [hz])) (by omega)
    have he:=ha e (by simp)
    omega
theorem zuz {a b:List Int} (ha:inW a) (hb:inW b):cmpW a b = cmpI (rk a:Int) (rk b:Int):=by
 unfold cmpW
 rcases Nat.lt_trichotomy a.length b.length with h | h | h
 ·have h1:cmpI (a.length:Int) (b.length:Int) = -1:=by unfold cmpI; rw [if_pos (by omega)]
  have:=zlL _ (Nat.le_refl _) ha h
  rw [h1,if_pos (by decide)]
  unfold cmpI
  rw [if_pos (by omega)]
 ·rw [h,zgO,if_neg (by simp)]
  exact zqt ha hb h
 ·have h1:cmpI (a.length:Int) (b.length:Int) = 1:=by unfold cmpI; rw [if_neg (by omega),if_pos (by omega)]
  have:=zlL _ (Nat.le_refl _) hb h
  rw [h1,if_pos (by decide)]
  unfold cmpI
  rw [if_neg (by omega),if_pos (by omega)]
theorem zgN {a b:List Int} (ha:inW a) (hb:inW b):cmpW a b < 0 ↔ rk a < rk b:=by
 rw [zuz ha hb]
 unfold cmpI
 by_cases h:(rk a:Int) < rk b
 ·rw [if_pos h]; constructor <;> intro _ <;> omega
 ·rw [if_neg h]
  split <;> constructor <;> intro _ <;> omega
theorem zsN:∀ (n:Nat) {a b:List Int},a.length ≤ n → inW a → inW b → rk a = rk b → a = b
 | n,a,b,hn,ha,hb,h => by
  rcases zcq a with rfl | ⟨u,e,rfl⟩
  ·rcases zcq b with rfl | ⟨v,f,rfl⟩
   ·rfl
   ·rw [zcw] at h
    have:rk [] = 0:=rfl
    omega
  ·cases n with
   | zero => simp at hn
   | succ n =>
    rcases zcq b with rfl | ⟨v,f,rfl⟩
    ·rw [zcw] at h
     have:rk [] = 0:=rfl
     omega
    ·rw [zcw,zcw] at h
     have he:=ha e (by simp)
     have hf:=hb f (by simp)
     simp only [List.length_append,List.length_singleton] at hn
     have h1:rk u = rk v:=by omega
     have h2:e = f:=by omega
     rw [zsN n (a:=u) (b:=v) (by omega) (fun z hz => ha z (by simp [hz])) (fun z hz => hb z (by simp [hz])) h1,h2]
theorem ztN {a b:List Int} (ha:inW a) (hb:inW b) (h:rk a = rk b):a = b:=zsN _ (Nat.le_refl _) ha hb h
theorem zuX {a b:List Int} {e:Int} (h:rk a ≤ rk b):rk (a ++ [e]) ≤ rk (b ++ [e]):=by
 rw [zcw,zcw]; omega
theorem zlM:∀ (n:Nat) {a:List Int},inW a → a.length ≤ n → rk a < 33 ^ n
 | n,a,ha,hn => by
  rcases zcq a with rfl | ⟨u,e,rfl⟩
  ·show rkA 0 [] < _
   rw [rkA]
   exact Nat.pow_pos (by decide)
  ·cases n with
   | zero => simp at hn
   | succ n =>
    simp only [List.length_append,List.length_singleton] at hn
    have:=zlM n (a:=u) (fun z hz => ha z (by simp [hz])) (by omega)
    have he:=ha e (by simp)
    rw [zcw,Nat.pow_succ]
    omega
theorem zrC {a b:List Int} (ha:inW a) (hb:inW b) (h:rk a ≤ rk b):a.length ≤ b.length:=by
 rcases Nat.lt_or_ge b.length a.length with h1 | h1
 ·have:=zlL _ (Nat.le_refl _) hb h1
  omega
 ·exact h1
end Go.AI


namespace Go.AI
open Go.Proofs
set_option maxRecDepth 20000
theorem ztj (O:List Heap) (x y:Int):zan Tryz.prog 148 [ii x,ii y] O (ii (cmpI x y)) [] O:=by
 have h:=fun O x => zpE O x
 unfold cmpI
 refine zad Tk Tryz.func148 rfl Tryz.call148 Tryz.ntmps148 (Nat.le_of_ble_eq_true rfl) fun E => ?_
 refine zae Tk Tryz.func148 ?_
 refine zaf Tk Tryz.func148 (h _ _) rfl rfl rfl rfl rfl ?_
 refine zaf Tk Tryz.func148 (h _ _) rfl rfl rfl rfl rfl ?_
 refine gcF Tk Tryz.func148 rfl ?_
 refine gcF Tk Tryz.func148 rfl ?_
 refine zai Tk Tryz.func148 rfl (fun c1 => ?_) (fun c1 => ?_)
 ·have c1:x < y:=of_decide_eq_true c1
  rw [if_pos c1]
  refine zal Tk (r:=ii (-1)) rfl rfl rfl trivial rfl rfl ?_
  rfl
 have c1:¬ x < y:=of_decide_eq_false c1
 rw [if_neg c1]
 refine zai Tk Tryz.func148 rfl (fun c2 => ?_) (fun c2 => ?_)
 ·have c2:x > y:=of_decide_eq_true c2
  rw [if_pos c2]
  refine zal Tk (r:=ii 1) rfl rfl rfl trivial rfl rfl ?_
  rfl
 ·have c2:¬ x > y:=of_decide_eq_false c2
  rw [if_neg c2]
  refine zal Tk (r:=ii 0) rfl rfl rfl trivial rfl rfl ?_
  rfl
theorem zsx:∀ {a b:List Int},a = [] → cmpL a b = if a.length < b.length then -1 else 0
 | _,[],rfl => rfl
 | _,_ :: _,rfl => by simp [cmpL]
theorem zvA (O:List Heap) (a b:List Int) (ha:a.length ≤ 1000000) (hb:b.length ≤ 1000000):zan Tryz.prog 149 [ints a,ints b] O (ii (cmpL a b)) [] O:=by
 have h:=fun O x y => ztj O x y
 obtain ⟨R,hR⟩:∃ R,R = cmpL (a.drop 0) (b.drop 0):=⟨_,rfl⟩
 have e0:cmpL a b = R:=hR.symm
 rw [e0]
 refine zad Tk Tryz.func149 rfl Tryz.call149 Tryz.ntmps149 (Nat.le_of_ble_eq_true rfl) fun E => ?_
 refine zae Tk Tryz.func149 ?_
 refine zac ?_
 refine zah (fun i:Nat => [(0,ints a),(1,ints b),(9,ints a),(10,ii a.length),(11,ii i)]) (fun _ => []) (fun _ => O) 36
  (fun i => (i ≤ a.length ∧ i ≤ b.length) ∧ R = cmpL (a.drop i) (b.drop i)) (fun i => a.length - i) 0 ⟨⟨Nat.zero_le _,Nat.zero_le _⟩,hR⟩ ⟨rfl,rfl,rfl,rfl,rfl,trivial⟩ rfl trivial rfl rfl ?_
 clear hR e0
 rintro i ⟨⟨hi,hib⟩,hno⟩ ih
 refine zae Tk Tryz.func149 ?_
 refine zai Tk Tryz.func149 rfl (fun g1 => ?_) (fun g1 => ?_)
 ·have h3:i < a.length:=by simpa using g1
  clear g1
  have hi1:ii (IntKind.i64.wrap ((i:Int) + 1)) = ii ((i + 1:Nat):Int):=congrArg ii (zaB (n:=1000001) (by omega) (by decide))
  have ga:(a.map fun x => [vi x])[(i:Int).toNat]? = some [vi a[i]]:=zaj (f:=fun x => [vi x]) h3
  have da:a.drop i = a[i] :: a.drop (i + 1):=List.drop_eq_getElem_cons h3
  refine zag Tk Tryz.func149 (by exact ⟨by omega,by show (i:Int) < (a.length:Int); omega⟩) ?_
  refine zap Tk Tryz.func149 (ga) ?_
  refine zai Tk Tryz.func149 rfl (fun c1 => ?_) (fun c1 => ?_)
  ·have c1:(i:Int) ≥ (b.length:Int):=of_decide_eq_true c1
   rw [da,List.drop_eq_nil_of_le (show b.length ≤ i by omega)] at hno
   simp only [cmpL] at hno
   subst hno
   refine zal Tk (r:=ii 1) rfl rfl rfl trivial rfl rfl ?_
   rfl
  have c1:¬ (i:Int) ≥ (b.length:Int):=of_decide_eq_false c1
  have h4:i < b.length:=by omega
  have gb:(b.map fun x => [vi x])[(i:Int).toNat]? = some [vi b[i]]:=zaj (f:=fun x => [vi x]) h4
  have db:b.drop i = b[i] :: b.drop (i + 1):=List.drop_eq_getElem_cons h4
  rw [da,db] at hno
  simp only [cmpL] at hno
  clear da db ga
  generalize a[i] = x at *
  generalize b[i] = y at *
  have h':=fun O => h O x y
  generalize cmpI x y = t at *
  refine zag Tk Tryz.func149 (by exact ⟨by omega,by show (i:Int) < (b.length:Int); omega⟩) ?_
  refine zap Tk Tryz.func149 (gb) ?_
  refine zaf Tk Tryz.func149 (h' _) rfl rfl rfl rfl rfl ?_
  refine zai Tk Tryz.func149 rfl (fun c2 => ?_) (fun c2 => ?_)
  ·have c2:t ≠ 0:=by simpa using c2
   rw [if_pos c2] at hno
   subst hno
   refine zal Tk (r:=ii R) rfl rfl rfl trivial rfl rfl ?_
   rfl
  ·have c2:¬ t ≠ 0:=by simpa using c2
   rw [if_neg c2] at hno
   refine zac ?_
   refine ih (i + 1) _ _ ⟨⟨h3,h4⟩,hno⟩ (by omega) ⟨rfl,rfl,rfl,rfl,hi1,trivial⟩ rfl trivial rfl rfl
 ·have h3:a.length ≤ i:=by simpa using g1
  rw [zsx (List.drop_eq_nil_of_le h3),List.length_drop,List.length_drop] at hno
  refine zai Tk Tryz.func149 rfl (fun c1 => ?_) (fun c1 => ?_)
  ·have c1:(a.length:Int) < (b.length:Int):=of_decide_eq_true c1
   rw [if_pos (by omega)] at hno
   subst hno
   refine zal Tk (r:=ii (-1)) rfl rfl rfl trivial rfl rfl ?_
   rfl
  ·have c1:¬ (a.length:Int) < (b.length:Int):=of_decide_eq_false c1
   rw [if_neg (by omega)] at hno
   subst hno
   refine zal Tk (r:=ii 0) rfl rfl rfl trivial rfl rfl ?_
   rfl
theorem zvN (O:List Heap) (x y:Int):zan Tryz.prog 147 [.i (.sl 1 2 [[vi x],[vi y]])] O (ii (if x ≠ 0 then x else y)) [] O:=by
 refine zad Tk Tryz.func147 rfl Tryz.call147 Tryz.ntmps147 (Nat.le_of_ble_eq_true rfl) fun E => ?_
 refine zae Tk Tryz.func147 ?_
 refine zac ?_
 refine zae Tk Tryz.func147 ?_
 refine gcT Tk Tryz.func147 rfl ?_
 refine zag Tk Tryz.func147 (by decide) ?_
 refine zap Tk Tryz.func147 (rfl) ?_
 refine zai Tk Tryz.func147 rfl (fun c1 => ?_) (fun c1 => ?_)
 ·have c1:x ≠ 0:=by simpa using c1
  rw [if_pos c1]
  refine zal Tk (r:=ii x) rfl rfl rfl trivial rfl rfl ?_
  rfl
 have c1:¬ x ≠ 0:=by simpa using c1
 rw [if_neg c1]
 refine zac ?_
 refine zae Tk Tryz.func147 ?_
 refine gcT Tk Tryz.func147 rfl ?_
 refine zag Tk Tryz.func147 (by decide) ?_
 refine zap Tk Tryz.func147 (rfl) ?_
 refine zai Tk Tryz.func147 rfl (fun c2 => ?_) (fun c2 => ?_)
 ·refine zal Tk (r:=ii y) rfl rfl rfl trivial rfl rfl ?_
  rfl
 have c2:¬ y ≠ 0:=by simpa using c2
 obtain rfl:y = 0:=Classical.byContradiction c2
 refine zac ?_
 refine zae Tk Tryz.func147 ?_
 refine gcF Tk Tryz.func147 rfl ?_
 refine zal Tk (r:=ii 0) rfl rfl rfl trivial rfl rfl ?_
 rfl
theorem zmi (O:List Heap) (a b:List Int) (ha:a.length ≤ 1000000) (hb:b.length ≤ 1000000):zan Tryz.prog 101 [ints a,ints b] O (ii (cmpW a b)) [] O:=by
 have h1:=fun O => ztj O a.length b.length
 have h2:=fun O => zvA O a b ha hb
 have h3:=fun O => zvN O (cmpI a.length b.length) (cmpL a b)
 unfold cmpW
 generalize cmpI a.length b.length = x at *
 generalize cmpL a b = y at *
 refine zad Tk Tryz.func101 rfl Tryz.call101 Tryz.ntmps101 (Nat.le_of_ble_eq_true rfl) fun E => ?_
 refine zae Tk Tryz.func101 ?_
 refine zaf Tk Tryz.func101 (h1 _) rfl rfl rfl rfl rfl ?_
 refine zaf Tk Tryz.func101 (h2 _) rfl rfl rfl rfl rfl ?_
 refine zaf Tk Tryz.func101 (h3 _) rfl rfl rfl rfl rfl ?_
 refine zal Tk (r:=ii (if x ≠ 0 then x else y)) rfl rfl rfl trivial rfl rfl ?_
 rfl
theorem zmj (O:List Heap) (l:List Int) (hl:l.length ≤ 1000000):zan Tryz.prog 77 [ints l] O (.osl 0 207) [(207,zaw l)] O:=by
 refine zad Tk Tryz.func77 rfl Tryz.call77 Tryz.ntmps77 (Nat.le_of_ble_eq_true rfl) fun E => ?_
 refine zae Tk Tryz.func77 ?_
 refine zpW Tk Tryz.func77 rfl rfl fun b hb => ?_
 refine zai Tk Tryz.func77 rfl (fun h1 => ?_) (fun h1 => ?_)
 ·have hl0:l = []:=List.eq_nil_of_length_eq_zero (hb h1)
  subst hl0
  refine zcJ (zb4 2 207 3 1 rfl rfl rfl) ?_
  exact ⟨zbm (hT:=Tk) (r:=.osl 0 207) rfl rfl rfl ⟨⟨_,rfl,rfl⟩,trivial⟩ (zeh _ _ _) rfl rfl⟩
 ·refine zag Tk Tryz.func77 (by exact ⟨by show (0 + l.length) * 8 ≤ 140737488355328; omega,by show 0 + l.length ≤ 9223372036854775807; omega⟩) ?_
  refine zcJ (ziI (l:=[(2,.osl 0 7)]) (Hv:=[(7,.arr 3 1 (0 + l.length) ([] ++ l.map fun x => [vi x]) true)]) ⟨rfl,trivial⟩ rfl ⟨rfl,trivial⟩ rfl rfl) ?_
  rw [Nat.zero_add,List.nil_append]
  refine zcJ (zcT 7 207 rfl rfl rfl) ?_
  exact ⟨zbm (hT:=Tk) (r:=.osl 0 207) rfl rfl rfl ⟨⟨_,rfl,rfl⟩,trivial⟩ (zeh _ _ _) rfl rfl⟩
end Go.AI


namespace Go.AI
abbrev Fd:=Int × List Int
inductive RP (a:Aut) (on:List Int) (frm:List Fd):Int → List Int → Prop
 | base {x:Fd}:x ∈ frm → RP a on frm x.1 x.2
 | step {s e:Int} {w:List Int}:RP a on frm s w → e ∈ a.alpha → e ∉ on → 0 ≤ stp3 a.edges s e → RP a on frm (stp3 a.edges s e) (w ++ [e])
structure fdOk (a:Aut) (n:Nat) (frm:List Fd):Prop where
 al:∀ e ∈ a.alpha,0 ≤ e ∧ e < 32
 st:∀ e ∈ a.edges,0 ≤ e.2.2 ∧ e.2.2 < (n:Int)
 rng:∀ x ∈ frm,0 ≤ x.1 ∧ x.1 < (n:Int)
 wrd:∀ x ∈ frm,inW x.2
theorem zdm {es:List Edg} {s ev:Int} (h:0 ≤ stp3 es s ev):∃ x ∈ es,x.1 = s ∧ x.2.1 = ev ∧ x.2.2 = stp3 es s ev:=by
 induction es with
 | nil => rw [stp3] at h; omega
 | cons x r ih =>
  simp only [stp3] at h ⊢
  by_cases c:x.1 = s ∧ x.2.1 = ev
  ·rw [if_pos c] at h ⊢
   exact ⟨x,by simp,c.1,c.2,rfl⟩
  ·rw [if_neg c] at h ⊢
   obtain ⟨y,hy,h1⟩:=ih h
   exact ⟨y,by simp [hy],h1⟩
section
variable {a:Aut} {on:List Int} {frm:List Fd} {n:Nat}
theorem RP.ok (h:fdOk a n frm) {t:Int} {w:List Int} (hp:RP a on frm t w):(0 ≤ t ∧ t < (n:Int)) ∧ inW w:=by
 induction hp with
 | base hx => exact ⟨h.rng _ hx,h.wrd _ hx⟩
 | @step s e w hp he ho ht ih =>
  obtain ⟨x,hx,_,_,h3⟩:=zdm ht
  refine ⟨⟨ht,by rw [← h3]; exact (h.st x hx).2⟩,fun z hz => ?_⟩
  rcases List.mem_append.1 hz with hz | hz
  ·exact ih.2 z hz
  ·rw [List.mem_singleton] at hz
   subst hz
   exact h.al _ he
structure RQ (a:Aut) (on:List Int) (frm:List Fd) (l:List Fd):Prop where
 snd:∀ y ∈ l,RP a on frm y.1 y.2
 nd:(l.map (·.1)).Nodup
 low:∀ t w,RP a on frm t w → ∃ y ∈ l,y.1 = t ∧ rk y.2 ≤ rk w
 srt:l.Pairwise fun x y => rk x.2 < rk y.2
theorem zka {α:Type} {f:α → Nat}:∀ {l m:List α},(l.Pairwise fun x y => f x < f y) → (m.Pairwise fun x y => f x < f y) → (∀ x,x ∈ l ↔ x ∈ m) → l = m
 | [],[],_,_,_ => rfl
 | [],y :: m,_,_,h => by have:=(h y).2 (by simp); cases this
 | x :: l,[],_,_,h => by have:=(h x).1 (by simp); cases this
 | x :: l,y :: m,hl,hm,h => by
  rw [List.pairwise_cons] at hl hm
  have hxy:x = y:=by
   rcases List.mem_cons.1 ((h x).1 (by simp)) with e | e
   ·exact e
   ·rcases List.mem_cons.1 ((h y).2 (by simp)) with e2 | e2
    ·exact e2.symm
    ·have:=hm.1 x e
     have:=hl.1 y e2
     omega
  subst hxy
  congr 1
  refine zka hl.2 hm.2 fun z => ⟨fun hz => ?_,fun hz => ?_⟩
  ·rcases List.mem_cons.1 ((h z).1 (by simp [hz])) with e | e
   ·subst e
    have:=hl.1 z hz
    omega
   ·exact e
  ·rcases List.mem_cons.1 ((h z).2 (by simp [hz])) with e | e
   ·subst e
    have:=hm.1 z hz
    omega
   ·exact e
theorem zjd {l:List Fd} (h:(l.map (·.1)).Nodup) {x y:Fd} (hx:x ∈ l) (hy:y ∈ l) (e:x.1 = y.1):x = y:=by
 induction l with
 | nil => cases hx
 | cons z l ih =>
  rw [List.map_cons,List.nodup_cons] at h
  rcases List.mem_cons.1 hx with h1 | h1 <;> rcases List.mem_cons.1 hy with h2 | h2
  ·rw [h1,h2]
  ·subst h1; exact absurd (List.mem_map.2 ⟨y,h2,e.symm⟩) h.1
  ·subst h2; exact absurd (List.mem_map.2 ⟨x,h1,e⟩) h.1
  ·exact ih h.2 h1 h2
theorem RQ.mem (h:fdOk a n frm) {l m:List Fd} (hl:RQ a on frm l) (hm:RQ a on frm m) {x:Fd} (hx:x ∈ l):x ∈ m:=by
 have p:=hl.snd x hx
 obtain ⟨y,hy,e1,e2⟩:=hm.low _ _ p
 have q:=hm.snd y hy
 obtain ⟨z,hz,e3,e4⟩:=hl.low _ _ q
 have:z = x:=zjd hl.nd hz hx (e3.trans e1)
 subst this
 have:y.2 = z.2:=ztN (q.ok h).2 (p.ok h).2 (by omega)
 have:y = z:=Prod.ext e1 this
 rwa [← this]
theorem RQ.eq (h:fdOk a n frm) {l m:List Fd} (hl:RQ a on frm l) (hm:RQ a on frm m):l = m:=zka hl.srt hm.srt fun x => ⟨RQ.mem h hl hm,RQ.mem h hm hl⟩
open Classical in
noncomputable def rchF (a:Aut) (on:List Int) (frm:List Fd):List Fd:=if h:∃ l,RQ a on frm l then h.choose else []
theorem zpc (h:fdOk a n frm) {l:List Fd} (hl:RQ a on frm l):l = rchF a on frm:=by
 have hex:∃ l,RQ a on frm l:=⟨l,hl⟩
 have h1:rchF a on frm = hex.choose:=by unfold rchF; rw [dif_pos hex]
 rw [h1]
 exact RQ.eq h hl hex.choose_spec
structure RGd (a:Aut) (on:List Int) (frm:List Fd) (l:List Fd):Prop where
 snd:∀ y ∈ l,RP a on frm y.1 y.2
 nd:(l.map (·.1)).Nodup
 cov:∀ x ∈ frm,∃ y ∈ l,y.1 = x.1 ∧ rk y.2 ≤ rk x.2
abbrev clE (a:Aut) (on:List Int) (l:List Fd) (x:Fd) (e:Int):Prop:=e ∉ on → 0 ≤ stp3 a.edges x.1 e → ∃ y ∈ l,y.1 = stp3 a.edges x.1 e ∧ rk y.2 ≤ rk (x.2 ++ [e])
theorem RGd.low {l:List Fd} (h:RGd a on frm l) (hc:∀ x ∈ l,∀ e ∈ a.alpha,clE a on l x e):∀ t w,RP a on frm t w → ∃ y ∈ l,y.1 = t ∧ rk y.2 ≤ rk w:=by
 intro t w hp
 induction hp with
 | base hx => exact h.cov _ hx
 | @step s e w hp he ho ht ih =>
  obtain ⟨x,hx,e1,e2⟩:=ih
  subst e1
  obtain ⟨y,hy,e3,e4⟩:=hc x hx e he ho ht
  exact ⟨y,hy,e3,Nat.le_trans e4 (zuX e2)⟩
theorem RGd.q {l:List Fd} (h:RGd a on frm l) (hs:l.Pairwise fun x y => rk x.2 < rk y.2) (hc:∀ x ∈ l,∀ e ∈ a.alpha,clE a on l x e):RQ a on frm l:=⟨h.snd,h.nd,h.low hc,hs⟩
theorem RGd.few {l:List Fd} (h:RGd a on frm l) (ho:fdOk a n frm):l.length ≤ n:=by
 have h1:=zc8 (n:=n) (l:=l.map fun y => y.1.toNat) ?_ ?_
 ·rwa [List.length_map] at h1
 ·have:=h.nd
  unfold List.Nodup at this ⊢
  rw [List.pairwise_map] at this ⊢
  refine this.imp_of_mem fun {x y} hx hy hne e => hne ?_
  have:=((h.snd x hx).ok ho).1
  have:=((h.snd y hy).ok ho).1
  omega
 ·intro z hz
  obtain ⟨y,hy,rfl⟩:=List.mem_map.1 hz
  have:=((h.snd y hy).ok ho).1
  show y.1.toNat < n
  omega
def sumR:List Fd → Nat
 | [] => 0
 | y :: r => rk y.2 + sumR r
theorem zlE:∀ (l m:List Fd),sumR (l ++ m) = sumR l + sumR m
 | [],m => by simp [sumR]
 | y :: l,m => by simp only [List.cons_append,sumR,zlE l m]; omega
theorem zlD:∀ {l:List Fd} {k:Nat} (h:k < l.length) (z:Fd),sumR (l.set k z) + rk l[k].2 = sumR l + rk z.2
 | [],k,h,z => by simp at h
 | y :: l,0,h,z => by simp only [List.set_cons_zero,List.getElem_cons_zero,sumR]; omega
 | y :: l,k + 1,h,z => by
  have:=zlD (l:=l) (k:=k) (by simpa using h) z
  simp only [List.set_cons_succ,List.getElem_cons_succ,sumR]
  omega
def meas (n B:Nat) (l:List Fd):Nat:=(n - l.length) * 33 ^ (B + n) + sumR l
theorem zr0 {B:Nat} {l:List Fd} {y:Fd} (hn:l.length < n) (hw:inW y.2) (hl:y.2.length ≤ B + n):meas n B (l ++ [y]) < meas n B l:=by
 unfold meas
 have h1:=zlM _ hw hl
 rw [zlE,List.length_append,List.length_singleton]
 have h2:n - l.length = (n - (l.length + 1)) + 1:=by omega
 rw [h2,Nat.succ_mul]
 simp only [sumR]
 omega
theorem zrZ {B:Nat} {l:List Fd} {k:Nat} (h:k < l.length) {z:Fd} (hz:rk z.2 < rk l[k].2):meas n B (l.set k z) < meas n B l:=by
 unfold meas
 have:=zlD h z
 rw [List.length_set]
 omega
structure Pss (a:Aut) (on:List Int) (frm:List Fd) (n B:Nat) (l0 l:List Fd) (al:Option (List Fd)) (ch:Bool):Prop where
 g:RGd a on frm l
 len:∀ y ∈ l,y.2.length ≤ B + l.length
 k:l0.length ≤ l.length
 alo:∀ old,al = some old → l0.length ≤ old.length ∧ ∀ y ∈ old,RP a on frm y.1 y.2 ∧ y.2.length ≤ B + l.length
 same:ch = false → l = l0 ∧ al = none
 less:ch = true → meas n B l < meas n B l0
theorem Pss.at {B:Nat} {l0 l:List Fd} {al:Option (List Fd)} {ch:Bool} (h:Pss a on frm n B l0 l al ch) {x:Fd} (hx:x ∈ al.getD l):RP a on frm x.1 x.2 ∧ x.2.length ≤ B + l.length:=by
 cases al with
 | none => exact ⟨h.g.snd x hx,h.len x hx⟩
 | some old => exact (h.alo old rfl).2 x hx
theorem Pss.app {B:Nat} {l0 l:List Fd} {al al':Option (List Fd)} {ch:Bool} (ho:fdOk a n frm) (h:Pss a on frm n B l0 l al ch) (hal:al' = al ∨ al' = some l) {s e:Int} {w:List Int} (hp:RP a on frm s w) (hw:w.length ≤ B + l.length) (he:e ∈ a.alpha) (hon:e ∉ on) (ht:0 ≤ stp3 a.edges s e)
  (hno:∀ y ∈ l,y.1 ≠ stp3 a.edges s e):Pss a on frm n B l0 (l ++ [(stp3 a.edges s e,w ++ [e])]) al' true ∧ l.length < n:=by
 have hp':=RP.step hp he hon ht
 have hg:RGd a on frm (l ++ [(stp3 a.edges s e,w ++ [e])]):=by
  refine ⟨fun y hy => ?_,?_,fun x hx => ?_⟩
  ·rcases List.mem_append.1 hy with hy | hy
   ·exact h.g.snd y hy
   ·rw [List.mem_singleton] at hy
    subst hy
    exact hp'
  ·rw [List.map_append,List.nodup_append]
   refine ⟨h.g.nd,by simp,fun x hx y hy => ?_⟩
   obtain ⟨z,hz,rfl⟩:=List.mem_map.1 hx
   simp only [List.map_cons,List.map_nil,List.mem_singleton] at hy
   subst hy
   exact hno z hz
  ·obtain ⟨y,hy,h1⟩:=h.g.cov x hx
   exact ⟨y,by simp [hy],h1⟩
 have hlt:=hg.few ho
 rw [List.length_append,List.length_singleton] at hlt
 have hm:=zr0 (B:=B) (y:=(stp3 a.edges s e,w ++ [e])) (show l.length < n by omega) (hp'.ok ho).2 (by simp only [List.length_append,List.length_singleton]; omega)
 refine ⟨⟨hg,fun y hy => ?_,by rw [List.length_append]; have:=h.k; omega,fun old ho' => ?_,fun e => (by cases e),fun _ => ?_⟩,by omega⟩
 ·rw [List.length_append,List.length_singleton]
  rcases List.mem_append.1 hy with hy | hy
  ·have:=h.len y hy
   omega
  ·rw [List.mem_singleton] at hy
   subst hy
   simp only [List.length_append,List.length_singleton]
   omega
 ·rw [List.length_append,List.length_singleton]
  rcases hal with rfl | rfl
  ·obtain ⟨h1,h2⟩:=h.alo old ho'
   exact ⟨h1,fun y hy => ⟨(h2 y hy).1,by have:=(h2 y hy).2; omega⟩⟩
  ·obtain rfl:=Option.some.inj ho'
   exact ⟨h.k,fun y hy => ⟨h.g.snd y hy,by have:=h.len y hy; omega⟩⟩
 ·cases ch with
  | false => obtain ⟨rfl,_⟩:=h.same rfl; exact hm
  | true => exact Nat.lt_trans hm (h.less rfl)
theorem Pss.upd {B:Nat} {l0 l:List Fd} {al:Option (List Fd)} {ch:Bool} (ho:fdOk a n frm) (h:Pss a on frm n B l0 l al ch) {s e:Int} {w:List Int} (hp:RP a on frm s w) (he:e ∈ a.alpha) (hon:e ∉ on) (ht:0 ≤ stp3 a.edges s e)
  {k:Nat} (hk:k < l.length) (hs:l[k].1 = stp3 a.edges s e) (hr:rk (w ++ [e]) < rk l[k].2):Pss a on frm n B l0 (l.set k (l[k].1,w ++ [e])) al true:=by
 have hp':=RP.step hp he hon ht
 have hmap:(l.set k (l[k].1,w ++ [e])).map (·.1) = l.map (·.1):=by
  rw [List.map_set]
  have:l[k].1 = (l.map (·.1))[k]'(by rw [List.length_map]; exact hk):=by simp
  simp only
  rw [this,List.set_getElem_self]
 have hm:=zrZ (n:=n) (B:=B) hk (z:=(l[k].1,w ++ [e])) hr
 have hle:=zrC (hp'.ok ho).2 ((h.g.snd _ (List.getElem_mem hk)).ok ho).2 (Nat.le_of_lt hr)
 refine ⟨⟨fun y hy => ?_,by rw [hmap]; exact h.g.nd,fun x hx => ?_⟩,fun y hy => ?_,by rw [List.length_set]; exact h.k,fun old ho' => by rw [List.length_set]; exact h.alo old ho',fun e => (by cases e),fun _ => ?_⟩
 ·rcases List.mem_or_eq_of_mem_set hy with hy | rfl
  ·exact h.g.snd y hy
  ·simp only
   rw [hs]
   exact hp'
 ·obtain ⟨y,hy,h1,h2⟩:=h.g.cov x hx
  obtain ⟨i,hi,rfl⟩:=List.mem_iff_getElem.1 hy
  by_cases hik:k = i
  ·subst hik
   exact ⟨(l[k].1,w ++ [e]),List.mem_set hk _,h1,by simp only; omega⟩
  ·exact ⟨l[i],by
    rw [List.mem_iff_getElem]
    exact ⟨i,by rw [List.length_set]; exact hi,by rw [List.getElem_set_ne hik]⟩,h1,h2⟩
 ·rw [List.length_set]
  rcases List.mem_or_eq_of_mem_set hy with hy | rfl
  ·exact h.len y hy
  ·have:=h.len _ (List.getElem_mem hk)
   simp only
   omega
 ·cases ch with
  | false => obtain ⟨rfl,_⟩:=h.same rfl; exact hm
  | true => exact Nat.lt_trans hm (h.less rfl)
end
end Go.AI


namespace Go.AI
structure FlOK (c:Cx) (ops:Array Oper) (O:List Heap) (n:Nat) (x:SH) (o:Oper) (p:Pl):Prop where
 w:zav ops (St.of O n (zaA ops o x)) o = some true
 r:p.rem = zbr (St.of O n (zaA ops o x)) o
 d:Does c o (St.of O n (zaA ops o x)) (PQ O n (zaA ops o x) p) (exec c.T (St.of O n (zaA ops o x)) o)
theorem ztT {c:Cx} (hT:TOk c.P c.T) (hm:c.P.follows .mixedOrders = true) {id:Nat} {ops:Array Oper} {O O':List Heap} {n:Nat} {x0:SH} {ps:List Pl} {k:List Item} {oF:Oper}
  (hoF:ops[ps.length]? = some oF) (hg:oF.guard = none)
  (hF:∀ x:SH,(∀ t d,look (zaA ops oF (zbt ps x0)).1 t = some d → look x.1 t = some d) → Does c oF (St.of O n x) (fun s' => s' = St.of O' n x) (exec c.T (St.of O n x) oF))
  (hok:okT ops (ps ++ [noPl]) x0 = true) (hch:zdh c ops O n ops.toList ps x0)
  (hfl:∀ i o p,ops[i]? = some o → ps[i]? = some p → i ∉ getL (zci ops.toList []) ps.length → zdg c ops O' n o (zaA ops o (zbt (ps.take i) x0)) p)
  (hend:RG c ops (List.range' (ps.length + 1) (ops.size - (ps.length + 1))) (St.of O' n (zbt ps x0)) k):Rch c (.code (.region id ops true) :: k) (St.of O n x0):=by
 have hun:zg2 ops (zci ops.toList []) = true ∧ znb ops (zci ops.toList []) (ps.length + 1) = true ∧ ps.length + 1 ≤ ops.size ∧
   ∀ i o p,ops.toList[i]? = some o → (ps ++ [noPl])[i]? = some p → okI ops (zci ops.toList []) (ps ++ [noPl]) x0 (0 + i) o (zbt ((ps ++ [noPl]).take i) x0) p = true:=by
  have h:=hok
  simp only [okT,Bool.and_eq_true] at h
  obtain ⟨⟨hpre,hgo⟩,htl⟩:=h
  obtain ⟨hlen,hget⟩:=zfB hgo
  exact ⟨hpre,by simpa using htl,by simpa using hlen,hget⟩
 obtain ⟨hpre,htl,hlen,hget⟩:=hun
 have hpl:pl (ps ++ [noPl]) ps.length = noPl:=by
  unfold pl
  rw [List.getElem?_append_right (Nat.le_refl _),Nat.sub_self]
  rfl
 refine zi1 (p:=ps.length + 1) hm rfl hpre htl hlen (fun L a w => ∃ K ρ,Inv c.E K ρ (St.of (if L ps.length = true then O' else O) n (fold (ps ++ [noPl]) (ord ops.size L) x0)) a w) ?_ ?_ ?_ ?_
 ·rintro L L' a w hL ⟨K,ρ,hi⟩
  refine ⟨K,ρ,?_⟩
  rw [← hL _ (by omega),← zcZ fun k hk => hL k hk]
  exact hi
 ·intro K ρ a w hi
  refine ⟨K,ρ,?_⟩
  have e:ord ops.size (fun _ => false) = []:=by simp [ord]
  rw [e]
  exact hi
 ·rintro L hc i o ho hip hLi hbef hno a w ⟨K,ρ,hinv⟩ Q next hnext
  by_cases hie:i = ps.length
  ·subst hie
   rw [hLi,if_neg (by decide)] at hinv
   rw [hoF] at ho
   simp only [Option.some.injEq] at ho
   subst ho
   have hok1:=hget ps.length oF noPl (by simpa using hoF) (by rw [List.getElem?_append_right (Nat.le_refl _),Nat.sub_self]; rfl)
   rw [Nat.zero_add] at hok1
   have e:(ps ++ [noPl]).take ps.length = ps:=by simp
   rw [e] at hok1
   have e2:zbt ps x0 = fold (ps ++ [noPl]) (ord ops.size fun k => Nat.ble (k + 1) ps.length) x0:=by
    rw [zbC (n:=ops.size) (by omega),za6 _ (by simp),e]
   have hok2:okI ops (zci ops.toList []) (ps ++ [noPl]) x0 ps.length oF (zbt ps x0) (pl (ps ++ [noPl]) ps.length) = true:=by
    rw [hpl]
    exact hok1
   obtain ⟨hf,hy1,hy2⟩:=fits hpre hoF hok2 e2 hc hLi hbef
   have hw:zav ops (St.of O n (fold (ps ++ [noPl]) (ord ops.size L) x0)) oF = some true:=by unfold zav; rw [hg]
   unfold wpOp
   rw [hoF]
   dsimp only
   rw [za7 hinv hw,if_pos rfl]
   refine .inl ?_
   refine zbE hT (hF _ fun t d e => hf.v1 t d e) K ρ a w hinv _ _ fun v w' s' K' ρ' _ _ hi' hq => hnext _ _ ⟨K',ρ',?_⟩
   have e3:(if (L ps.length || Nat.beq ps.length ps.length) = true then O' else O) = O':=by
    rw [if_pos (by rw [beq_of_eq rfl,Bool.or_true])]
   show Inv c.E K' ρ' (St.of (if (L ps.length || Nat.beq ps.length ps.length) = true then O' else O) n _) (a.put oF.dst v) w'
   rw [e3]
   subst hq
   refine Inv.sameX hi' (fun t => ?_) fun nm => ?_
   ·rw [hy1,hpl]; simp [noPl,Pl.ap]
   ·rw [hy2,hpl]; simp [noPl,Pl.ap,rmv]
  ·have hil:i < ps.length:=by omega
   have hp:(ps ++ [noPl])[i]? = some ps[i]:=by rw [List.getElem?_append_left hil,List.getElem?_eq_getElem hil]
   have hok1:=hget i o _ (by simpa using ho) hp
   have e:(ps ++ [noPl]).take i = ps.take i:=by rw [List.take_append_of_le_length (by omega)]
   have hbq:Nat.beq ps.length i = false:=by
    cases hb:Nat.beq ps.length i with
    | false => rfl
    | true => exact absurd (Nat.eq_of_beq_eq_true hb).symm hie
   have hst:zdg c ops (if L ps.length = true then O' else O) n o (zaA ops o (zbt (ps.take i) x0)) ps[i]:=by
    cases hL:L ps.length with
    | false =>
     rw [if_neg (by decide)]
     exact zdG hch i o _ (by simpa using ho) (List.getElem?_eq_getElem hil)
    | true =>
     rw [if_pos rfl]
     refine hfl i o _ ho (List.getElem?_eq_getElem hil) fun hmem => ?_
     have:=(zbM hpre hc (ps.length + 1) ps.length oF (Nat.lt_succ_self _) hoF (fun j hj => hc ps.length oF hoF hL j hj) i hmem).1
     rw [this] at hLi; cases hLi
   rw [← e] at hst
   have hpl':pl (ps ++ [noPl]) i = ps[i]:=by simp [pl,hp]
   rw [Nat.zero_add] at hok1
   rw [← za6 i (by simp; omega),← zbC (n:=ops.size) (by omega)] at hok1 hst
   rw [← hpl'] at hok1 hst
   obtain ⟨hf,hy1,hy2⟩:=fits hpre ho hok1 rfl hc hLi hbef
   refine zdK ho hst hf hy1 hy2 hinv fun a' w' K' ρ' hinv' => ?_
   refine hnext a' w' ⟨K',ρ',?_⟩
   have e3:(L ps.length || Nat.beq ps.length i) = L ps.length:=by rw [hbq,Bool.or_false]
   show Inv c.E K' ρ' (St.of (if (L ps.length || Nat.beq ps.length i) = true then O' else O) n _) a' w'
   rw [e3]
   exact hinv'
 ·rintro a w ⟨K,ρ,hinv⟩
  rw [if_pos (Nat.ble_eq_true_of_le (Nat.le_refl _)),zbC (n:=ops.size) hlen,za6 _ (by simp),List.take_of_length_le (by simp)] at hinv
  have e:zbt (ps ++ [noPl]) x0 = zbt ps x0:=by
   unfold zbt
   rw [List.foldl_append]
   simp [noPl,Pl.ap,rmv]
  rw [e] at hinv
  exact hend K ρ a w hinv
theorem zkC {c:Cx} {s:St} {o:Oper} {t nm d n j:Nat} {px pv:Operand} {ti:TI} {es:Nat} {ty:Nat} {xs:List (List I)} {cs:List D} {l:List I} (hop:o.op = .store t px pv) (hdn:o.dst = none) (h1:look c.T t = some ti) (hx:evD s px = .own (d + 1) nm j 0) (hv:evD s pv = .agg cs) (hl:D.toIs cs = some l)
  (hc:(Nat.beq cs.length ti.size && D.ones cs) = true) (hes:Nat.beq ti.size es = true) (hS:zaa s.S (d + 1) nm = some (.arr ty es n xs true)):Does c o s (fun s' => s' = { s with S:=setAt s.S (d + 1) nm (.arr ty es n (xs.set j l) true) }) (exec c.T s o):=by
 have e:exec c.T s o = zcQ c.T s t (.own (d + 1) nm j 0) (.agg cs):=by
  unfold exec
  rw [hop]
  simp only [hx,hv,hdn]
 rw [e]
 unfold zcQ
 rw [h1]
 have hcells:(D.agg cs).cells = cs:=rfl
 simp only [hcells]
 rw [hc]
 show Does c o s _ (zce s (d + 1) nm _)
 unfold zce
 refine ⟨_,hS,?_⟩
 simp only [hl,hes]
 refine ⟨?_,rfl⟩
 unfold turns
 rw [hop]
theorem zne {c:Cx} (hT:TOk c.P c.T) {ops:Array Oper} {O:List Heap} {n:Nat} {o:Oper} {v:SH} {t:Nat} {d:D} (hw:zav ops (St.of O n v) o = some true) (ht:o.dst = some t) (hn:Nat.ble (t + 1) n = true) (hex:exec c.T (St.of O n v) o = .val d) (hro:roB o = true) :
  zdg c ops O n o v ⟨[(t,d)],[],none⟩:=by
 refine zey hw (zin hro).symm fun E hE => zbE (c:={ c with E:=E }) hT ?_
 rw [show exec ({ c with E:=E }:Cx).T (St.of O n v) o = .val d from hex]
 show match o.dst with
  | some t => t < (St.of O n v).n ∧ _
  | none => False
 rw [ht]
 refine ⟨Nat.le_of_ble_eq_true hn,rfl,rfl,fun t' d' e => ?_⟩
 obtain ⟨rfl,rfl⟩:=zaP e
 exact .inr (.inl (by simp [St.set,zab]))
def FDS (c:Cx) (id:Nat) (ops:Array Oper) (O:List Heap) (n:Nat) (x0:SH) (k:List Item) (x:SH) (ps:List Pl):Prop:=
 x = zbt ps x0 → zdh c ops O n ops.toList ps x0 → Rch c (.code (.region id ops true) :: k) (St.of O n x0)
theorem zsh {c:Cx} {s:St} {k:List Item} {ops:Array Oper} (hT:TOk c.P c.T) (m:Nat) {id:Nat} {O:List Heap} {H:Heap} (hS:s.S = H :: O)
  (h:GE c ops O s.n (FDS c id ops O s.n (s.σ,H) k) (runS c.T ops O s.n 0 (ops.toList.take m) (s.σ,H) [])):GM c (.drawn id ops s k):=by
 obtain ⟨qs,h1,h2⟩:=zaY (c:=c) hT _ _ _ _ h.h
 rw [List.nil_append] at h2
 have hs:s = St.of O s.n (s.σ,H):=by
  cases s
  simp only at hS
  subst hS
  rfl
 refine ⟨?_⟩
 show Rch c (.code (.region id ops true) :: k) s
 rw [hs]
 exact h2 rfl (zfl h1)
theorem zwc {c:Cx} (hT:TOk c.P c.T) (hfn:c.P.funcs[c.f]? = some c.fn) (hm:c.P.follows .mixedOrders = true) {id:Nat} {ops:Array Oper} {O:List Heap} {n:Nat} {x0 x:SH} {acc:List Pl} {k:List Item} {oF:Oper} {N:Nat} {t tx tv nm d nn j:Nat} {ti:TI} {es ty:Nat} {xs:List (List I)} {cs:List D} {l0:List I} (l:List Nat)
  (fl:List Nat) (hN:acc.length = N) (hoF:ops[N]? = some oF) (hg:oF.guard = none) (hdn:oF.dst = none) (hop:oF.op = .store t (.tmp tx) (.tmp tv)) (h1:look c.T t = some ti) (hx:look (zaA ops oF x).1 tx = some (.own (d + 1) nm j 0)) (hv:look (zaA ops oF x).1 tv = some (.agg cs)) (hl0:D.toIs cs = some l0)
  (hc:(Nat.beq cs.length ti.size && D.ones cs) = true) (hes:Nat.beq ti.size es = true) (hO:zaa O d nm = some (.arr ty es nn xs true))
  (hok:okT ops (acc ++ [noPl]) x0 = true)
  (hfi:allN N (fun i => memN fl i || memN (getL (zci ops.toList []) N) i) = true)
  (hfl:∀ i ∈ fl,∃ o t' d',ops[i]? = some o ∧ acc[i]? = some ⟨[(t',d')],[],none⟩ ∧ zav ops (St.of (setAt O d nm (.arr ty es nn (xs.set j l0) true)) n (zaA ops o (zbt (acc.take i) x0))) o = some true ∧ o.dst = some t' ∧ Nat.ble (t' + 1) n = true ∧ exec c.T (St.of (setAt O d nm (.arr ty es nn (xs.set j l0) true)) n (zaA ops o (zbt (acc.take i) x0))) o = .val d' ∧ roB o = true)
  (hl:List.range' (N + 1) (ops.size - (N + 1)) = l)
  (hend:GM c (zgA x fun x => run c.T c.stop 1000 (.inRegion ops l :: k) (St.of (setAt O d nm (.arr ty es nn (xs.set j l0) true)) n x))) :
  GE c ops O n (FDS c id ops O n x0 k) (.done x acc):=by
 subst hl
 subst hN
 refine ⟨?_⟩
 show FDS c id ops O n x0 k x acc
 intro hx0 hch
 subst hx0
 refine ztT (O':=setAt O d nm (.arr ty es nn (xs.set j l0) true)) hT hm hoF hg (fun x' hsub => ?_) hok hch (fun i o p ho hp hni => ?_) ?_
 rotate_left 1
 ·have hil:i < acc.length:=(List.getElem?_eq_some_iff.1 hp).1
  have h:=zbj hfi i hil
  simp only [Bool.or_eq_true] at h
  rcases h with h | h
  ·obtain ⟨o',t',d',f1,f2,f3,f4,f5,f6,f7⟩:=hfl i (zbq.1 h)
   rw [ho] at f1
   obtain rfl:=Option.some.inj f1
   rw [hp] at f2
   obtain rfl:=Option.some.inj f2
   exact zne hT f3 f4 f5 f6 f7
  ·exact absurd (zbq.1 h) hni
 rotate_left 1
 ·have e1:=hsub _ _ hx
  have e2:=hsub _ _ hv
  refine zkC (s:=St.of O n x') hop hdn h1 ?_ ?_ hl0 hc hes ?_
  ·show St.get (St.of O n x') tx = _
   unfold St.get
   have:look (St.of O n x').σ tx = some (.own (d + 1) nm j 0):=e1
   rw [this]
  ·show St.get (St.of O n x') tv = _
   unfold St.get
   have:look (St.of O n x').σ tv = some (.agg cs):=e2
   rw [this]
  ·exact hO
 ·have h:=hend.h
  rw [zeK] at h
  exact zaF hT hfn 1000 (.inRegion ops _ :: k) _ h
end Go.AI
