/- The layer of abstract runs, part 30. -/
import Derived.Test.YtnojpbbaohoadaaGreatDoorElkZC
import Derived.KernelRfl
set_option linter.unusedSimpArgs false
set_option linter.unusedVariables false
set_option linter.all false
set_option maxHeartbeats 4000000
namespace Go.AI
open Go.Proofs
set_option maxRecDepth 20000
def orgA (m:Mdl) (p:Plc):List Sta × Int:=if (mchA m p).2 ≠ 0 then ([],(mchA m p).2) else match za7 (mchA m p).1 with
 | .error e => ([],e)
 | .ok U => (U.sts,0)
theorem zy6 {e:Int}:CoD (.tup [.i (.v (.slice none 0 0)),ii e]) (.tup [zdo [],ii e]):=by
 repeat' (first | refine zbi ?_ | refine za9 ?_ | refine zbO ?_ | refine CoDL.cons ?_ ?_ | exact CoDL.nil | exact zaX | refine zbH ?_ | refine CoLL.cons ?_ ?_ | exact CoLL.nil | refine CoL.cons ?_ ?_ | exact CoL.nil | exact CoI.refl _ | exact CoL.refl _ | exact CoLL.refl _ | exact CoDL.refl _ | exact CoD.refl _)
theorem zrY {m:Mdl} {p:Plc} (hm:mdlOk m) (hmv:∀ t ∈ m.tpls,t.mach.moves.length ≤ 19) (h:(mchA m p).2 = 0):∃ x t,(mdlE m).2 = 0 ∧ zcw m p = .ok x ∧ (mchA m p).1 = mchR m x ∧ mchOk m x t ∧ mchR m x = mchE m x t ∧ extOk (mchR m x) ∧ (t.locs.length:Int) = t.mach.locs ∧ nmsE [] t.locs = 0:=by
 unfold mchA at h ⊢
 by_cases h1:(mdlE m).2 ≠ 0
 ·rw [if_pos h1] at h; exact absurd h h1
 rw [if_neg h1] at h ⊢
 have h1:(mdlE m).2 = 0:=Classical.byContradiction h1
 cases hp:zcw m p with
 | error e => rw [hp] at h; exact absurd h (zfj hp)
 | ok x =>
  obtain ⟨t,a1,a2,a3,a4,_⟩:=zeH hmv h1 (zfi hp)
  exact ⟨x,t,h1,rfl,rfl,a1,a2,by rw [a2]; exact zk5 hm (zle hm (zfi hp)) a1,a3,a4⟩
theorem ztV {g:Nat} (hg:zfd g) {ty:TypeId} {fr:Nat × Nat} (O:List Heap) (m:Mdl) (p:Plc) (hm:mdlOk m) (hmv:∀ t ∈ m.tpls,t.mach.moves.length ≤ 19) :
  zbd g (ptab ty fr) Tryz.prog 19 [mdlD m,.agg [ii p.1,ii p.2]] O (.tup [zdo (orgA m p).1,ii (orgA m p).2]) [] O:=by
 have h18:=fun O => zhi O m p hm hmv
 have hk:=fun h => zrY (p:=p) hm hmv h
 generalize hR:orgA m p = R
 unfold orgA at hR
 generalize mchA m p = A at *
 obtain ⟨X,e⟩:=A
 obtain ⟨a,b⟩:=p
 simp only at h18 hk hR
 refine zaU [] Tk Tryz.func19 rfl Tryz.call19 Tryz.ntmps19 (Nat.le_of_ble_eq_true rfl) fun E hE => ?_
 refine zah Tk Tryz.func19 ?_
 refine zag Tk Tryz.func19 (h18 _) rfl rfl rfl rfl rfl ?_
 refine zai Tk Tryz.func19 rfl (fun c1 => ?_) (fun c1 => ?_)
 ·have c1:e ≠ 0:=bneT c1
  rw [if_pos c1] at hR
  subst hR
  refine zax Tk (r:=.tup [.i (.v (.slice none 0 0)),ii e]) rfl rfl rfl trivial rfl rfl ?_
  exact zy6
 have c1:e = 0:=bneF c1
 rw [if_neg (fun h => h c1)] at hR
 obtain ⟨x,t,_,_,hX,_,_,hok,_⟩:=hk c1
 rw [← hX] at hok
 have hU:=fun O => znU hg (ty:=ty) (fr:=fr) O X hok
 clear hX hk
 cases hu:za7 X with
 | error e2 =>
  have hU2:∀ O,zbd g (ptab ty fr) Tryz.prog 32 [extD X] O (.tup [autD ⟨[],0,[],[]⟩,zdo [],ii e2]) [] O:=fun O => by have:=hU O; rw [hu] at this; exact this
  rw [hu] at hR
  simp only at hR
  subst hR
  refine zbc Tk Tryz.func19 hE (hU2 _) rfl rfl rfl rfl rfl rfl ?_
  refine zae Tk (r:=.tup [zdo [],ii e2]) rfl rfl rfl trivial rfl rfl ?_
  rfl
 | ok U =>
  have hU2:∀ O,zbd g (ptab ty fr) Tryz.prog 32 [extD X] O (.tup [autD ⟨X.alpha,U.sts.length,U.mkl,U.eds⟩,zdo U.sts,ii 0]) [] O:=fun O => by have:=hU O; rw [hu] at this; exact this
  rw [hu] at hR
  simp only at hR
  subst hR
  refine zbc Tk Tryz.func19 hE (hU2 _) rfl rfl rfl rfl rfl rfl ?_
  refine zae Tk (r:=.tup [zdo U.sts,ii 0]) rfl rfl rfl trivial rfl rfl ?_
  rfl
theorem zjH:∀ {l b:List ByteArray},nmsE b l = 0 → ∀ s ∈ l,s.size ≤ 32
 | [],_,_,s,hs => by simp at hs
 | x :: r,b,h,s,hs => by
  simp only [nmsE] at h
  by_cases h1:nmE b x ≠ 0
  ·rw [if_pos h1] at h; exact absurd h h1
  rw [if_neg h1] at h
  rcases List.mem_cons.1 hs with rfl | hs
  ·exact zgG (zvT (Classical.byContradiction h1)).1
  ·exact zjH h s hs
theorem zhe {all:List Vr}:∀ {l:List Vr} {i:Nat},zbe all l i = 0 → ∀ v ∈ l,v.name.size ≤ 32
 | [],_,_,v,hv => by simp at hv
 | x :: r,i,h,v,hv => by
  simp only [zbe] at h
  split at h
  ·rename_i e he
   subst h
   unfold checkVr at he
   split at he; · cases he
   split at he; · cases he
   split at he; · cases he
   split at he; · cases he
   split at he <;> cases he
  ·rename_i he
   rcases List.mem_cons.1 hv with rfl | hv
   ·unfold checkVr at he
    split at he; · cases he
    rename_i h1
    exact zgG (by simpa using h1)
   ·exact zhe h v hv
theorem zwk {l:List Vr} (h:zbw l = 0):∀ v ∈ l,v.name.size ≤ 32:=by
 unfold zbw at h
 split at h
 ·cases h
 ·exact zhe h
abbrev stgD (s:ByteArray) (e:Int):D:=.tup [.i (.v (.string s)),ii e]
theorem zxV {g:Nat} (hg:zfd g) {ty:TypeId} {fr:Nat × Nat} (O:List Heap) (m:Mdl) (p:Plc) (s:Sta) (hm:mdlOk m) (hmv:∀ t ∈ m.tpls,t.mach.moves.length ≤ 19) :
  zbd g (ptab ty fr) Tryz.prog 20 [mdlD m,.agg [ii p.1,ii p.2],staD s] O (stgD (labR m p s).1 (labR m p s).2) [] O:=by
 have h18:=fun O => zhi O m p hm hmv
 have hk:=fun h => zrY (p:=p) hm hmv h
 have h61:=fun O => zhV O m p hm.toszOk
 have hf:=fun O nm => zd8 O m 2 nm hm.toszOk
 rw [show namK m 2 = m.tpls.map (·.name) from rfl] at hf
 generalize hR:labR m p s = R
 have hR:(if (mchA m p).2 ≠ 0 then ((⟨#[]⟩:ByteArray),(mchA m p).2) else match zcw m p with
  | .error e => (⟨#[]⟩,e)
  | .ok x => if ckS (mchR m x) s ≠ 0 then (⟨#[]⟩,ckS (mchR m x) s) else match zcT m x with
   | none => (⟨#[]⟩,0)
   | some t => (labT (mchR m x).vars s.vals (t.locs.getD s.loc.toNat ⟨#[]⟩),0)) = R:=by
  rw [← hR]
  unfold labR mchA
  by_cases h1:(mdlE m).2 ≠ 0
  ·rw [if_pos h1,if_pos h1,if_pos h1]
  ·rw [if_neg h1,if_neg h1]
   cases hp:zcw m p with
   | error e => simp only; rw [if_pos (zfj hp)]
   | ok x => simp only; rw [if_neg (by decide)]; rfl
 generalize hAA:mchA m p = A at *
 obtain ⟨X,e⟩:=A
 obtain ⟨a,b⟩:=p
 obtain ⟨sl,sv⟩:=s
 simp only at h18 hk hR h61
 refine zaU [] Tk Tryz.func20 rfl Tryz.call20 Tryz.ntmps20 (Nat.le_of_ble_eq_true rfl) fun E hE => ?_
 refine zah Tk Tryz.func20 ?_
 refine zag Tk Tryz.func20 (h18 _) rfl rfl rfl rfl rfl ?_
 refine zai Tk Tryz.func20 rfl (fun c1 => ?_) (fun c1 => ?_)
 ·have c1:e ≠ 0:=bneT c1
  rw [if_pos c1] at hR
  subst hR
  refine zae Tk (r:=stgD ⟨#[]⟩ e) rfl rfl rfl trivial rfl rfl ?_
  rfl
 have c1:e = 0:=bneF c1
 rw [if_neg (fun h => h c1)] at hR
 obtain ⟨x,t,_,hp,hX,hmo,hme,hok,hlo,hnm⟩:=hk c1
 rw [hp] at hR
 simp only at hR
 have hck:=@zks (mchR m x) ⟨sl,sv⟩
 have h34:=fun O => zfS O (mchR m x) ⟨sl,sv⟩ hok
 rw [← hX] at hR hck h34
 rw [show zhu m (a,b) = (x,0) from by unfold zhu; rw [hp]] at h61
 have htp:=hmo.tp
 rw [htp] at hR
 simp only at hR
 have hXv:X.vars = t.mach.vars:=by rw [hX,hme]; rfl
 have hXl:X.locs = t.mach.locs:=by rw [hX,hme]; rfl
 have hvr:=hmo.right.vars
 have hv16:t.mach.vars.length ≤ 16:=by
  have:=hmo.right.vars
  unfold zbw at this
  by_cases hc:t.mach.vars.length > 16
  ·rw [if_pos hc] at this; cases this
  ·omega
 unfold zcT at htp
 rcases zfP Tpl.name m.tpls x.tpl with ⟨h1,_⟩ | ⟨k,t',h1,h2,h3⟩
 ·rw [h1] at htp; cases htp
 rw [h2] at htp
 cases htp
 have hf2:=fun O => hf O x.tpl
 rw [h3,zeY] at hf2
 have hkl:k < m.tpls.length:=(List.getElem?_eq_some_iff.1 h1).1
 have gt:(m.tpls.map tplI)[(k:Int).toNat]? = some (tplI t):=by rw [Int.toNat_natCast,List.getElem?_map,h1]; rfl
 rw [← hXl] at hlo
 rw [← hXv] at hvr hv16
 clear h2 h3 hf hmo hme hok hXv hXl hp h18 hk hAA
 generalize hC:ckS X ⟨sl,sv⟩ = C at *
 refine zag Tk Tryz.func20 (h34 _) rfl rfl rfl rfl rfl ?_
 refine zai Tk Tryz.func20 rfl (fun c2 => ?_) (fun c2 => ?_)
 ·have c2:C ≠ 0:=bneT c2
  rw [if_pos c2] at hR
  subst hR
  refine zae Tk (r:=stgD ⟨#[]⟩ C) rfl rfl rfl trivial rfl rfl ?_
  rfl
 have c2:C = 0:=bneF c2
 rw [if_neg (fun h => h c2)] at hR
 obtain ⟨_,k2,k3,k4,k5⟩:=hck c2
 simp only at k2 k3 k4 k5
 have hsl:sl.toNat < t.locs.length:=by omega
 have gl:(t.locs.map fun s => [strI s])[sl.toNat]? = some [strI (t.locs.getD sl.toNat ⟨#[]⟩)]:=by
  rw [List.getElem?_map,List.getD_eq_getElem?_getD,List.getElem?_eq_getElem hsl]; rfl
 have hs0:(t.locs.getD sl.toNat ⟨#[]⟩).size ≤ 32:=by
  rw [List.getD_eq_getElem?_getD,List.getElem?_eq_getElem hsl]
  exact zjH hnm _ (List.getElem_mem hsl)
 generalize t.locs.getD sl.toNat ⟨#[]⟩ = s0 at *
 have hvn:=zwk hvr
 have hvb:∀ v ∈ sv,-65536 ≤ v ∧ v ≤ 65536:=by
  intro v hv
  obtain ⟨i,hi,rfl⟩:=List.getElem_of_mem hv
  have:=(within_iff.1 k3).2 i (by omega) hi
  have hb:=zkG hvr X.vars[i] (List.getElem_mem (by omega))
  omega
 obtain ⟨xn,xt,xe⟩:=x
 simp only at hf2
 refine zag Tk Tryz.func20 (h61 _) rfl rfl rfl rfl rfl ?_
 refine zag Tk Tryz.func20 (hf2 _) rfl rfl rfl rfl rfl ?_
 refine zay Tk Tryz.func20 zaG rfl ?_
 refine zas Tk (by exact ⟨by omega,by show (k:Int) < (m.tpls.length:Int); omega⟩) ?_
 refine zaJ Tk (gt) ?_
 refine zas Tk (by exact ⟨k4,by show sl < (t.locs.length:Int); omega⟩) ?_
 refine zaJ Tk (gl) ?_
 refine zaI Tk Tryz.func20 (by kernel_rfl) ?_
 generalize hT:labT X.vars sv s0 = T at hR
 subst hR
 refine zaf ?_
 refine zal (fun x:Nat × ByteArray => [(5,.own 0 5 0 0),(15,sD x.2),(57,vrs X.vars),(58,ii X.vars.length),(59,ii x.1)])
  (fun _ => [(5,.box [ii sl,ints sv])]) (fun _ => O) 79
  (fun x => x.1 ≤ X.vars.length ∧ x.2.size ≤ 100 + 100 * x.1 ∧ labT (X.vars.drop x.1) (sv.drop x.1) x.2 = T) (fun x => X.vars.length - x.1) (0,s0) ⟨Nat.zero_le _,by simp only; omega,hT⟩ ⟨rfl,rfl,rfl,rfl,rfl,trivial⟩ rfl ⟨rfl,trivial⟩ rfl rfl ?_
 clear hT
 rintro ⟨i,acc⟩ ⟨hi,has,hno⟩ ih
 simp only at hi has hno
 refine zah Tk Tryz.func20 ?_
 refine zai Tk Tryz.func20 rfl (fun g1 => ?_) (fun g1 => ?_)
 ·have g1:i < X.vars.length:=by simpa using g1
  have g1':i < sv.length:=by omega
  have gv:(X.vars.map vrI)[(i:Int).toNat]? = some (vrI X.vars[i]):=zam (f:=vrI) g1
  have gn:(sv.map fun x => [vi x])[(i:Int).toNat]? = some [vi sv[i]]:=zam (f:=fun x => [vi x]) g1'
  have hvi:=hvn X.vars[i] (List.getElem_mem g1)
  have hni:=hvb sv[i] (List.getElem_mem g1')
  rw [List.drop_eq_getElem_cons g1,List.drop_eq_getElem_cons g1'] at hno
  simp only [labT] at hno
  have hit:=fun O => znq hg (ty:=ty) (fr:=fr) O sv[i] (by omega) (by omega)
  have hsz:=zc0 (n:=sv[i]) (by omega) (by omega)
  have hj1:ii (IntKind.i64.wrap ((i:Int) + 1)) = ii ((i + 1:Nat):Int):=congrArg ii (zaE (n:=1000001) (by omega) (by decide))
  generalize X.vars[i] = v at *
  generalize zdc sv[i] = tx at *
  generalize sv[i] = n at *
  obtain ⟨vn,vlo,vhi,vin⟩:=v
  simp only at hno hvi
  have hs1:((⟨#[32]⟩:ByteArray) ++ vn).size = 1 + vn.size:=ByteArray.size_append
  have hs2:((⟨#[32]⟩:ByteArray) ++ vn ++ ⟨#[61]⟩).size = 1 + vn.size + 1:=by rw [ByteArray.size_append,hs1]; rfl
  have hs3:((⟨#[32]⟩:ByteArray) ++ vn ++ ⟨#[61]⟩ ++ tx).size = 1 + vn.size + 1 + tx.size:=by rw [ByteArray.size_append,hs2]
  refine zaj Tk Tryz.func20 (by exact ⟨by omega,by show (i:Int) < (X.vars.length:Int); omega⟩) ?_
  refine zaq Tk Tryz.func20 (gv) ?_
  refine zay Tk Tryz.func20 zaG rfl ?_
  refine zas Tk (by show 1 + vn.size ≤ 9223372036854775807; omega) ?_
  refine zas Tk (by show ((⟨#[32]⟩:ByteArray) ++ vn).size + 1 ≤ 9223372036854775807; rw [hs1]; omega) ?_
  refine zas Tk (by exact ⟨by omega,by show (i:Int) < (sv.length:Int); omega⟩) ?_
  refine zaJ Tk (gn) ?_
  refine zdr Tk hE (hit _) rfl rfl rfl rfl ?_
  refine zas Tk (by show ((⟨#[32]⟩:ByteArray) ++ vn ++ ⟨#[61]⟩).size + tx.size ≤ 9223372036854775807; rw [hs2]; omega) ?_
  refine zas Tk (by show acc.size + ((⟨#[32]⟩:ByteArray) ++ vn ++ ⟨#[61]⟩ ++ tx).size ≤ 9223372036854775807; rw [hs3]; omega) ?_
  refine zaI Tk Tryz.func20 (by kernel_rfl) ?_
  refine zaf ?_
  exact ih (i + 1,acc ++ (⟨#[32]⟩ ++ vn ++ ⟨#[61]⟩ ++ tx)) _ _ ⟨g1,by simp only; rw [ByteArray.size_append,hs3]; omega,hno⟩ (by simp only; omega) ⟨rfl,rfl,rfl,rfl,hj1,trivial⟩ rfl ⟨rfl,trivial⟩ rfl rfl
 ·have g1:X.vars.length ≤ i:=by simpa using g1
  rw [List.drop_eq_nil_of_le g1] at hno
  have hno:acc = T:=by rw [← hno]; simp [labT]
  subst hno
  refine zae Tk (r:=stgD acc 0) rfl rfl rfl trivial rfl rfl ?_
  rfl
end Go.AI
namespace Go.AI
def valB:Value → Value → Bool
 | .string a,.string b => a.data.toList == b.data.toList
 | .int k a,.int k' b => decide (k = k') && a == b
 | .bool a,.bool b => a == b
 | .slice none 0 0,.slice none 0 0 => true
 | _,_ => false
theorem zwm:∀ {x y:Value},valB x y = true → x = y:=by
 intro x y h
 unfold valB at h
 split at h
 ·rw [beq_iff_eq] at h
  exact congrArg Value.string (ByteArray.ext (Array.ext' h))
 ·simp only [Bool.and_eq_true,decide_eq_true_eq,beq_iff_eq] at h
  rw [h.1,h.2]
 ·rw [beq_iff_eq] at h
  rw [h]
 ·rfl
 ·cases h
mutual
def coIB:I → I → Bool
 | .v x,.v y => valB x y
 | .v (.slice none 0 0),.sl _ 0 [] => true
 | .sl es n xs,.sl es' n' ys => es == es' && (n == n' && zp8 xs ys)
 | _,_ => false
def coLB:List I → List I → Bool
 | [],[] => true
 | x :: xs,y :: ys => coIB x y && coLB xs ys
 | _,_ => false
def zp8:List (List I) → List (List I) → Bool
 | [],[] => true
 | x :: xs,y :: ys => coLB x y && zp8 xs ys
 | _,_ => false
end
mutual
theorem zlD:∀ {x y:I},coIB x y = true → CoI x y
 | .v x,.v y,h => by
  simp only [coIB] at h
  rw [zwm h]
  exact CoI.refl _
 | .v x,.sl es n ys,h => by
  unfold coIB at h
  split at h
  ·rename_i e1 e2; cases e2
  ·rename_i e1 e2; cases e1; cases e2; exact zaX
  ·rename_i e1 e2; cases e1
  ·cases h
 | .sl es n xs,.sl es' n' ys,h => by
  simp only [coIB,Bool.and_eq_true,beq_iff_eq] at h
  obtain ⟨rfl,rfl,h⟩:=h
  exact zbH (znN h)
 | .v x,.ptr _ _ _ _,h => by simp [coIB] at h
 | .sl _ _ _,.v _,h => by simp [coIB] at h
 | .sl _ _ _,.ptr _ _ _ _,h => by simp [coIB] at h
 | .ptr _ _ _ _,_,h => by simp [coIB] at h
theorem zsQ:∀ {x y:List I},coLB x y = true → CoL x y
 | [],[],_ => .nil
 | x :: xs,y :: ys,h => by
  simp only [coLB,Bool.and_eq_true] at h
  exact .cons (zlD h.1) (zsQ h.2)
 | [],_ :: _,h => by simp [coLB] at h
 | _ :: _,[],h => by simp [coLB] at h
theorem znN:∀ {x y:List (List I)},zp8 x y = true → CoLL x y
 | [],[],_ => .nil
 | x :: xs,y :: ys,h => by
  simp only [zp8,Bool.and_eq_true] at h
  exact .cons (zsQ h.1) (znN h.2)
 | [],_ :: _,h => by simp [zp8] at h
 | _ :: _,[],h => by simp [zp8] at h
end
def coDB:List D → List D → Bool
 | [],[] => true
 | .i x :: xs,.i y :: ys => coIB x y && coDB xs ys
 | .osl a b :: xs,.osl c d :: ys => a == c && (b == d && coDB xs ys)
 | _,_ => false
theorem zhc:∀ {x y:List D},coDB x y = true → CoDL x y
 | [],[],_ => .nil
 | .i x :: xs,.i y :: ys,h => by
  simp only [coDB,Bool.and_eq_true] at h
  exact .cons (zbO (zlD h.1)) (zhc h.2)
 | .osl a b :: xs,.osl c d :: ys,h => by
  simp only [coDB,Bool.and_eq_true,beq_iff_eq] at h
  obtain ⟨rfl,rfl,h⟩:=h
  exact .cons (CoD.refl _) (zhc h)
 | x :: xs,y :: ys,h => by
  unfold coDB at h
  split at h
  ·rename_i e1 e2; cases e1
  ·rename_i e1 e2
   cases e1; cases e2
   simp only [Bool.and_eq_true] at h
   exact .cons (zbO (zlD h.1)) (zhc h.2)
  ·rename_i e1 e2
   cases e1; cases e2
   simp only [Bool.and_eq_true,beq_iff_eq] at h
   obtain ⟨rfl,rfl,h⟩:=h
   exact .cons (CoD.refl _) (zhc h)
  ·cases h
 | [],_ :: _,h => by simp [coDB] at h
 | _ :: _,[],h => by simp [coDB] at h
theorem zvv {x y:List D} (h:coDB x y = true):CoD (.agg x) (.agg y):=za9 (zhc h)
end Go.AI
namespace Go.AI
open Go.Proofs
set_option maxRecDepth 20000
mutual
def nilJ:I → I
 | .sl es n xs => match xs with
  | [] => .v (.slice none 0 0)
  | x :: r => .sl es n (nilL x :: zyj r)
 | d => d
def nilL:List I → List I
 | [] => []
 | x :: r => nilJ x :: nilL r
def zyj:List (List I) → List (List I)
 | [] => []
 | x :: r => nilL x :: zyj r
end
def nilD:D → D
 | .i x => .i (nilJ x)
 | d => d
theorem zuj:CoD (.agg ((mdlC shopM).map nilD)) (mdlD shopM):=zvv (by kernel_rfl)
set_option maxHeartbeats 8000000 in
theorem zx7 (O:List Heap):zan Tryz.prog 26 [] O (mdlD shopM) [] O:=by
 refine zaa Tk Tryz.func26 rfl Tryz.call26 Tryz.ntmps26 (Nat.le_of_ble_eq_true rfl) fun E => ?_
 refine zah Tk Tryz.func26 ?_
 refine zax Tk (r:=.agg ((mdlC shopM).map nilD)) rfl rfl rfl trivial (by kernel_rfl) rfl ?_
 exact zuj
theorem zsJ (O:List Heap) (es:List Edg) (he:es.length ≤ zao):zan Tryz.prog 115 [edgs es,edgs es] O (bb true) [] O:=by
 refine zaa Tk Tryz.func115 rfl Tryz.call115 Tryz.ntmps115 (Nat.le_of_ble_eq_true rfl) fun E => ?_
 refine zah Tk Tryz.func115 ?_
 refine zai Tk Tryz.func115 rfl (fun g1 => ?_) (fun g1 => ?_)
 ·exact absurd rfl (bneT g1)
 refine zaf ?_
 refine zal (fun i:Nat => [(0,edgs es),(1,edgs es),(12,ii es.length),(13,ii i)]) (fun _ => []) (fun _ => O) 26
  (fun i => i ≤ es.length) (fun i => es.length - i) 0 (Nat.zero_le _) ⟨rfl,rfl,rfl,rfl,trivial⟩ rfl trivial rfl rfl ?_
 rintro i hi ih
 refine zah Tk Tryz.func115 ?_
 refine zai Tk Tryz.func115 rfl (fun g3 => ?_) (fun g3 => ?_)
 ·have h3:i < es.length:=by simpa using g3
  have ge:(es.map edgI)[(i:Int).toNat]? = some (edgI es[i]):=zam h3
  generalize es[i] = e at *
  refine zay Tk Tryz.func115 zaG rfl ?_
  refine zas Tk (by exact ⟨by omega,by show (i:Int) < (es.length:Int); omega⟩) ?_
  refine zaJ Tk (ge) ?_
  refine zas Tk (by exact ⟨by omega,by show (i:Int) < (es.length:Int); omega⟩) ?_
  refine zaJ Tk (ge) ?_
  refine zaI Tk Tryz.func115 (by kernel_rfl) ?_
  refine zai Tk Tryz.func115 rfl (fun g4 => ?_) (fun g4 => ?_)
  ·simp at g4
  ·refine zaf ?_
   exact ih (i + 1) _ _ h3 (by omega) ⟨rfl,rfl,rfl,congrArg ii (zaE h3 he),trivial⟩ rfl trivial rfl rfl
 ·refine zae Tk (r:=bb true) rfl rfl rfl trivial rfl rfl ?_
  rfl
theorem zsK (O:List Heap) (a:Aut) (ha:a.alpha.length ≤ zao) (hm:a.marked.length ≤ zao) (he:a.edges.length ≤ zao):zan Tryz.prog 42 [autD a,autD a] O (bb true) [] O:=by
 obtain ⟨al,n,mk,es⟩:=a
 simp only at ha hm he
 have h1:∀ O,zan Tryz.prog 67 [ints al,ints al] O (bb true) [] O:=fun O => by
  have h:=zi2 O al al ha
  rwa [decide_eq_true rfl] at h
 have h2:∀ O,zan Tryz.prog 67 [ints mk,ints mk] O (bb true) [] O:=fun O => by
  have h:=zi2 O mk mk hm
  rwa [decide_eq_true rfl] at h
 have h3:=fun O => zsJ O es he
 refine zaa Tk Tryz.func42 rfl Tryz.call42 Tryz.ntmps42 (Nat.le_of_ble_eq_true rfl) fun E => ?_
 refine zah Tk Tryz.func42 ?_
 refine zaA Tk Tryz.func42 rfl (fun c1 => ?_) (fun c1 => ?_)
 rotate_left
 ·exact absurd rfl (beqF c1)
 refine zag Tk Tryz.func42 (h1 _) rfl rfl rfl rfl rfl ?_
 refine gkT Tk Tryz.func42 rfl ?_
 refine zag Tk Tryz.func42 (h2 _) rfl rfl rfl rfl rfl ?_
 refine gkT Tk Tryz.func42 rfl ?_
 refine zag Tk Tryz.func42 (h3 _) rfl rfl rfl rfl rfl ?_
 refine zae Tk (r:=bb true) rfl rfl rfl trivial rfl rfl ?_
 rfl
def autU (alpha:List Int) (U:Unf Sta):Aut:=⟨alpha,U.sts.length,U.mkl,U.eds⟩
theorem zxW:exOk yesX:=by simp [yesX,exOk,zkj,zao]
theorem zuV:extOk zrZ:=by
 refine ⟨by decide,by decide,by decide,by simp [zrZ],by decide,?_⟩
 intro x hx
 simp only [zrZ,List.mem_cons,List.not_mem_nil,or_false] at hx
 rcases hx with rfl | rfl <;> exact ⟨zxW,by decide,by simp⟩
theorem zvH:extOk zvI:=by
 refine ⟨by decide,by decide,by decide,?_,by decide,?_⟩
 ·intro v hv
  simp only [zvI,List.mem_cons,List.not_mem_nil,or_false] at hv
  subst hv; decide
 ·intro x hx
  simp only [zvI,List.mem_cons,List.not_mem_nil,or_false] at hx
  subst hx
  refine ⟨by simp [exOk,zkj,zao],by decide,?_⟩
  intro u hu
  simp only [List.mem_cons,List.not_mem_nil,or_false] at hu
  subst hu
  simp [exOk,zkj,zao]
theorem zws:tplOk tplX:=⟨by decide,by decide,by
  intro s hs
  simp only [tplX,List.mem_cons,List.not_mem_nil,or_false] at hs
  rcases hs with rfl | rfl <;> decide,by decide,by
  intro s hs
  simp only [tplX,List.mem_cons,List.not_mem_nil,or_false] at hs
  rcases hs with rfl | rfl <;> decide,zuV⟩
theorem zgq:∀ t ∈ shopM.tpls,tplOk t ∧ t.mach.moves.length ≤ 19:=by
 intro t ht
 simp only [shopM,List.mem_cons,List.not_mem_nil,or_false] at ht
 rcases ht with rfl | rfl
 ·exact ⟨zws,by decide⟩
 ·refine ⟨⟨by decide,by decide,?_,by decide,?_,zvH⟩,by decide⟩
  ·intro s hs
   simp only [List.mem_cons,List.not_mem_nil,or_false] at hs
   subst hs; decide
  ·intro s hs
   simp only [List.mem_cons,List.not_mem_nil,or_false] at hs
   subst hs; decide
theorem zwF:szOk shopM:=⟨by decide,by decide,by decide,by decide,by decide,by decide⟩
theorem zui:∀ x ∈ shopM.evs,x.name.size ≤ zao:=by
 intro x hx
 simp only [shopM,List.mem_cons,List.not_mem_nil,or_false] at hx
 rcases hx with rfl | rfl <;> decide
theorem zps:∀ x ∈ shopM.comps,insOk x:=by
 intro x hx
 simp only [shopM,List.mem_cons,List.not_mem_nil,or_false] at hx
 rcases hx with rfl | rfl <;> exact ⟨by decide,by decide⟩
theorem zrt:∀ x ∈ shopM.excs,x.name.size ≤ zao ∧ x.locals.length ≤ 1000000:=by
 intro x hx
 simp only [shopM,List.mem_cons,List.not_mem_nil,or_false] at hx
 subst hx; exact ⟨by decide,by decide⟩
theorem zrs:mdlOk shopM:={ toszOk:=zwF,nm:=by decide,evn:=zui,tpk:=fun t ht => (zgq t ht).1,cok:=zps,rqk:=fun x hx => (by cases hx),exk:=zrt,cnk:=fun x hx => (by cases hx) }
theorem zxm {g:Nat} (hg:zfd g) {ty:TypeId} {fr:Nat × Nat} (O:List Heap):zbd g (ptab ty fr) Tryz.prog 11 [] O (bb true) [] O:=by
 have hs:=fun O => zx7 O
 have hC:=fun O => zwg hg (ty:=ty) (fr:=fr) O shopM zrs fun t ht => (zgq t ht).2
 rw [zru] at hC
 have hL:=fun O => zxV hg (ty:=ty) (fr:=fr) O shopM (3,1) ⟨0,[2]⟩ zrs fun t ht => (zgq t ht).2
 rw [zpr] at hL
 have hEq:=fun O => zsK O ⟨[0,1],2,[0],[(0,1,1),(1,0,0)]⟩ (by decide) (by decide) (by decide)
 refine zaU [] Tk Tryz.func11 rfl Tryz.call11 Tryz.ntmps11 (Nat.le_of_ble_eq_true rfl) fun E hE => ?_
 refine zah Tk Tryz.func11 ?_
 refine zag Tk Tryz.func11 (hs _) rfl rfl rfl rfl rfl ?_
 refine zbc Tk Tryz.func11 hE (hC _) rfl rfl rfl rfl rfl rfl ?_
 repeat (first | refine gcT Tk Tryz.func11 rfl ?_ | refine gkT Tk Tryz.func11 rfl ?_ | refine skT Tk ?_ | refine gcF Tk Tryz.func11 rfl ?_ | refine gkF Tk Tryz.func11 rfl ?_ | refine skF Tk ?_)
 refine zaj Tk Tryz.func11 (by decide) ?_
 refine zaq Tk Tryz.func11 (rfl) ?_
 refine zag Tk Tryz.func11 (hs _) rfl rfl rfl rfl rfl ?_
 refine zbc Tk Tryz.func11 hE (hL _) rfl rfl rfl rfl rfl rfl ?_
 refine zaj Tk Tryz.func11 (by decide) ?_
 refine zaq Tk Tryz.func11 (rfl) ?_
 refine zag Tk Tryz.func11 (hEq _) rfl rfl rfl rfl rfl ?_
 refine gkT Tk Tryz.func11 rfl ?_
 refine zaj Tk Tryz.func11 (by decide) ?_
 refine zaq Tk Tryz.func11 (rfl) ?_
 refine gkT Tk Tryz.func11 rfl ?_
 refine zaA Tk Tryz.func11 rfl (fun _ => ?_) (fun h => absurd h (by rw [zbb]; decide))
 refine gkT Tk Tryz.func11 rfl ?_
 refine zaj Tk Tryz.func11 (by decide) ?_
 refine zaq Tk Tryz.func11 (rfl) ?_
 refine gkT Tk Tryz.func11 rfl ?_
 refine zaj Tk Tryz.func11 (by decide) ?_
 refine zaq Tk Tryz.func11 (rfl) ?_
 refine gkT Tk Tryz.func11 rfl ?_
 refine zaA Tk Tryz.func11 rfl (fun _ => ?_) (fun h => absurd h (by rw [zbb]; decide))
 refine zae Tk (r:=bb true) rfl rfl rfl trivial rfl rfl ?_
 rfl
abbrev zwY (l:List Tpl):Ob:=.arr 87 9 l.length (l.map tplI) true
abbrev ziB (l:List NEx):Ob:=.arr 91 2 l.length (l.map nexI) true
theorem zpK (c:UInt8) (i:Nat) (h:i ≤ 1000):(zbz c i).size ≤ 22:=by
 unfold zbz
 rw [ByteArray.size_append]
 have:=zc0 (n:=(i:Int)) (by omega) (by omega)
 show 1 + _ ≤ _
 omega
abbrev zcC (l:List Ins):Ob:=.arr 107 3 l.length (l.map insI) true
abbrev zuI (l:List NLc):Ob:=.arr 103 2 l.length (l.map nlcI) true
abbrev zw1 (l:List NTm):Ob:=.arr 93 2 l.length (l.map ntmI) true
abbrev zeF:List D:=[.i (strI ⟨#[]⟩),.i (.v (.slice none 0 0)),.i (.v (.slice none 0 0)),.i (.v (.slice none 0 0)),.i (.v (.slice none 0 0)),.i (.v (.slice none 0 0)),.i (.v (.slice none 0 0))]
theorem zpg {l:List Sk} {i:Nat} (h:i < l.length):zff l (i + 1) = zff l i ++ [zq5 i l[i]]:=by
 unfold zff
 rw [List.range_succ,List.map_append]
 simp [h]
theorem zsc {nt:Nat} {l:List Use22} {i:Nat} (h:i < l.length):insN nt l (i + 1) = zpV nt (insN nt l i) i l[i]:=by simp [insN,h]
theorem zwv (l:List ByteArray) (j:Nat) (hjl:j < l.length):D.i (.sl 1 (0 + (j:Int).toNat + (l.length - ((j + 1:Nat):Int).toNat)) ([] ++ (l.map fun s => [strI s]).take (j:Int).toNat ++ (l.map fun s => [strI s]).drop ((j + 1:Nat):Int).toNat)) = ssD (l.take j ++ l.drop (j + 1)):=by
 rw [Int.toNat_natCast,Int.toNat_natCast,List.nil_append,← List.map_take,← List.map_drop,← List.map_append]
 have:0 + j + (l.length - (j + 1)) = (l.take j ++ l.drop (j + 1)).length:=by rw [List.length_append,List.length_take,List.length_drop]; omega
 rw [this]
theorem zgB (o:Int):∀ k,(ordS o k).1.length = k
 | 0 => rfl
 | k + 1 => by simp only [ordS,List.length_append,List.length_singleton,zgB o k]
theorem znt (nt:Nat) (l:List Use22) (i:Nat):∀ x ∈ (insN nt l i).1 ++ (insN nt l i).2,x.evs.length = 3:=znu (P:=fun x => x.evs.length = 3) nt l (fun _ => zgB _ 3) i
theorem zp0 {T:List Tpl} {C:List Ins} {l:List (Whr × Whr)} {i:Nat} (h:i < l.length):zey T C l (i + 1) = zey T C l i ++ [zvl T C i l[i]]:=by
 unfold zey
 rw [List.range_succ,List.map_append]
 simp [h]
theorem zsA (T:List Tpl) (C:List Ins) (l:List (Whr × Whr)) (i:Nat):(zey T C l i).length = i:=by simp [zey]
theorem zsB {T:List Tpl} {C R:List Ins} (hT:∀ t ∈ T,1 ≤ t.locs.length ∧ t.locs.length ≤ 1000) (htpl:∀ x ∈ C ++ R,∃ t ∈ T,T.find? (fun t => sB t.name x.tpl) = some t) (hC:0 < C.length ∧ C.length ≤ 3) {wc wl:Int} (hw:zhm (wc,wl)) :
  ∃ (c:Ins) (t:Tpl) (s:ByteArray),(C.map insI)[((IntKind.i64.wrap wc).tmod (C.length:Int)).toNat]? = some (insI c) ∧ (0 ≤ (IntKind.i64.wrap wc).tmod (C.length:Int) ∧ (IntKind.i64.wrap wc).tmod (C.length:Int) < (C.length:Int)) ∧ T.find? (fun t => sB t.name c.tpl) = some t ∧ 1 ≤ t.locs.length ∧
   (t.locs.map fun s => [strI s])[((IntKind.i64.wrap wl).tmod (t.locs.length:Int)).toNat]? = some [strI s] ∧ (0 ≤ (IntKind.i64.wrap wl).tmod (t.locs.length:Int) ∧ (IntKind.i64.wrap wl).tmod (t.locs.length:Int) < (t.locs.length:Int)) ∧
   ∀ acc,excA T C acc (wc,wl) = if (match acc with | [] => false | a :: _ => sB a.1 c.name) = true then acc else acc ++ [(c.name,s)]:=by
 obtain ⟨h1,h2⟩:=hw
 simp only at h1 h2
 have w1:IntKind.i64.wrap wc = wc:=w64 (by omega) (by omega)
 have w2:IntKind.i64.wrap wl = wl:=w64 (by omega) (by omega)
 have m1:=Int.emod_nonneg wc (show (C.length:Int) ≠ 0 by omega)
 have m2:=Int.emod_lt_of_pos wc (show 0 < (C.length:Int) by omega)
 rw [w1,w2,Int.tmod_eq_emod_of_nonneg h1.1]
 obtain ⟨j,hj⟩:∃ j:Nat,(j:Int) = wc % (C.length:Int):=⟨(wc % (C.length:Int)).toNat,by omega⟩
 have hjl:j < C.length:=by omega
 have hgd:C.getD j zie = C[j]:=by simp [hjl]
 obtain ⟨t,ht,hf⟩:=htpl C[j] (List.mem_append_left _ (List.getElem_mem hjl))
 obtain ⟨hl1,hl2⟩:=hT t ht
 have n1:=Int.emod_nonneg wl (show (t.locs.length:Int) ≠ 0 by omega)
 have n2:=Int.emod_lt_of_pos wl (show 0 < (t.locs.length:Int) by omega)
 obtain ⟨q,hq⟩:∃ q:Nat,(q:Int) = wl % (t.locs.length:Int):=⟨(wl % (t.locs.length:Int)).toNat,by omega⟩
 have hql:q < t.locs.length:=by omega
 have htf:zm0 T C[j] = t:=by unfold zm0; rw [hf]; rfl
 refine ⟨C[j],t,t.locs[q],?_,by omega,hf,hl1,?_,by rw [Int.tmod_eq_emod_of_nonneg h2.1]; omega,fun acc => ?_⟩
 ·rw [← hj]
  exact zam (f:=insI) hjl
 ·rw [Int.tmod_eq_emod_of_nonneg h2.1,← hq]
  exact zam (f:=fun s => [strI s]) hql
 ·unfold excA
  simp only
  rw [← hj,Int.toNat_natCast,hgd,htf,← hq,Int.toNat_natCast]
  rcases acc with _ | ⟨a,r⟩ <;> simp [hql]
theorem zdI (C:List Ins):(zcE C).length = C.length:=by simp [zcE]
theorem zkM {C:List Ins} {r:Nat} (h:r < C.length):(zcE C).take (r + 1) = (zcE C).take r ++ [(C[C.length - 1 - r].name,1 + ((C.length - 1 - r:Nat):Int))]:=by
 have hl:=zdI C
 rw [List.take_succ_eq_append_getElem (by omega)]
 congr 2
 unfold zcE
 rw [List.getElem_reverse]
 simp only [List.getElem_map,List.length_map,List.length_range,List.getElem_range]
 rw [List.getD_eq_getElem?_getD,List.getElem?_eq_getElem (by omega)]
 rfl
theorem zq4 (l:List Sk) (i:Nat):(zff l i).length = i:=by simp [zff]
theorem zyo {g:Nat} (hg:zfd g) {ty:TypeId} {fr:Nat × Nat} (O:List Heap) (k:Sk22) (hk:sk22Ok k):zbd g (ptab ty fr) Tryz.prog 13 [zwE k] O (mdlD (zcq k)) [] O:=by
  have hio:∀ n:Nat,n ≤ 1000 → ∀ O,zbd g (ptab ty fr) Tryz.prog 27 [ii (n:Int)] O (.i (.v (.string (zdc (n:Int))))) [] O:=fun n hn O => znq hg (ty:=ty) (fr:=fr) O (n:Int) (by omega) (by omega)
  have hsz:∀ n:Nat,n ≤ 1000 → (zdc (n:Int)).size ≤ 21:=fun n hn => by
    have:=zc0 (n:=(n:Int)) (by omega) (by omega)
    omega
  generalize hR:zcq k = R
  unfold zcq at hR
  have hMT:mkT k = zff k.tpls (min k.tpls.length 3):=rfl
  have hTl:=ziI k
  have hMI:mkI k = insN (mkT k).length k.ins (zd6 k):=rfl
  have hIC:=zgU k
  have htpl:=zw9 k hk
  have hTloc:∀ t ∈ mkT k,1 ≤ t.locs.length ∧ t.locs.length ≤ 1000:=fun t h => by
    obtain ⟨j,_,hj,rfl⟩:=zk3 h
    have h1:=(hk.t _ (zf7 (d:=zSk) hj)).locs
    show 1 ≤ ((List.range _).map _).length ∧ ((List.range _).map _).length ≤ 1000
    simp only [List.length_map,List.length_range]
    unfold zcY
    omega
  have hICe:zd6 k = if (mkT k).length = 0 then 0 else min k.ins.length 5:=rfl
  obtain ⟨htl,ht,hil,huse,hel,he,hb⟩:=hk
  obtain ⟨kt,ki,kx,kb⟩:=k
  simp only at htl ht hil huse hel he hb hMT hTl hMI hIC hICe hR
  generalize zd6 ⟨kt,ki,kx,kb⟩ = IC at *
  generalize mkT ⟨kt,ki,kx,kb⟩ = T at *
  generalize mkI ⟨kt,ki,kx,kb⟩ = CR at *
  refine zaU [12,29,44,51,11,25,43,27,200161,50] Tk Tryz.func13 rfl Tryz.call13 Tryz.ntmps13 (Nat.le_of_ble_eq_true rfl) fun E hE => ?_
  refine zah Tk Tryz.func13 ?_
  apply zbR (P:=True) (s6:={ σ:=[(1,.own 0 1 0 0),(2,.own 0 2 0 0),(3,.own 0 3 0 0)],S:=[(1,.box (zej ⟨kt,ki,kx,kb⟩)),(2,.box zeF),(3,.box [.i (strI ⟨#[109]⟩),.i (zbx evs4),.i (zcB T),.i (.v (.slice none 0 0)),.i (.v (.slice none 0 0)),.i (.v (.slice none 0 0)),.i (.v (.slice none 0 0))])] :: O,n:=295 })
  · intro J
    refine g_wk (zaH 3 69 87 9 (pre:=[.i (strI ⟨#[109]⟩),.i (zbx evs4)]) (post:=[.i (.v (.slice none 0 0)),.i (.v (.slice none 0 0)),.i (.v (.slice none 0 0)),.i (.v (.slice none 0 0))]) rfl rfl rfl) ?_
    refine zaf ?_
    refine zal (fun i:Nat => [(1,.own 0 1 0 0),(2,.own 0 2 0 0),(3,.own 0 3 0 0),(4,ii i)])
      (fun i => [(1,.box (zej ⟨kt,ki,kx,kb⟩)),(2,.box zeF),(3,.box [.i (strI ⟨#[109]⟩),.i (zbx evs4),.osl 0 69,.i (.v (.slice none 0 0)),.i (.v (.slice none 0 0)),.i (.v (.slice none 0 0)),.i (.v (.slice none 0 0))]),(69,zwY (zff kt i))]) (fun _ => O) 295
      (fun i => i ≤ min kt.length 3) (fun i => min kt.length 3 - i) 0 (Nat.zero_le _) ⟨rfl,rfl,rfl,rfl,trivial⟩ rfl ⟨rfl,rfl,rfl,rfl,trivial⟩ rfl rfl ?_
    intro i hi ih
    have hi:i ≤ min kt.length 3:=hi
    have hend:i = min kt.length 3 → zff kt i = T:=fun e => by rw [e,hMT]
    have hTN:=zq4 kt i
    refine zah Tk Tryz.func13 ?_
    refine zaA Tk Tryz.func13 rfl (fun c1 => ?_) (fun c1 => ?_)
    · have c1:i < kt.length:=by simpa using c1
      refine zai Tk Tryz.func13 rfl (fun c2 => ?_) (fun c2 => ?_)
      · have c2:i < 3:=by have:(i:Int) < 3:=of_decide_eq_true c2;omega
        have gs:(kt.map skI)[(i:Int).toNat]? = some (skI kt[i]):=zam (f:=skI) c1
        have hmk:=fun O => zyn O kt[i] (ht kt[i] (List.getElem_mem c1))
        have hsucc:=zpg c1
        unfold zq5 at hsucc
        have hX:(ziL kt[i]).locs = (zcY kt[i]:Int):=rfl
        have hLb:zcY kt[i] ≤ 4:=by have:=(ht kt[i] (List.getElem_mem c1)).locs; unfold zcY; omega
        have hit:=hio i (by omega)
        have hsi:=hsz i (by omega)
        have hj1:ii (IntKind.i64.wrap ((i:Int) + 1)) = ii ((i + 1:Nat):Int):=congrArg ii (zaE (n:=1000001) (by omega) (by decide))
        generalize ziL kt[i] = X at *
        generalize zcY kt[i] = L at *
        generalize kt[i] = y at *
        generalize zff kt i = A at *
        clear J hend
        obtain ⟨al,lo,ini,mk,vr,mo⟩:=X
        simp only at hX
        subst hX
        refine zaj Tk Tryz.func13 (by exact ⟨by omega,by show (i:Int) < (kt.length:Int); omega⟩) ?_
        refine zaq Tk Tryz.func13 (gs) ?_
        refine zag Tk Tryz.func13 (hmk _) rfl rfl rfl rfl rfl ?_
        refine zay Tk Tryz.func13 zaG rfl ?_
        refine zdr Tk hE (hit _) rfl rfl rfl rfl ?_
        refine zas Tk (by show 1 + (zdc (i:Int)).size ≤ 9223372036854775807; omega) ?_
        refine zdq Tk rfl rfl rfl ?_
        refine zaI Tk Tryz.func13 (by kernel_rfl) ?_
        refine g_wk (zaH 6 63 9 1 (pre:=[.i (strI (zbz 116 i))]) (post:=[ssD abc3,ints al,ii L,ii ini,ints mk,vrs vr,mvs mo]) rfl rfl rfl) ?_
        refine zaf ?_
        refine zal (fun s:Nat => [(1,.own 0 1 0 0),(2,.own 0 2 0 0),(3,.own 0 3 0 0),(4,ii i),(5,.own 0 5 0 0),(6,.own 0 6 0 0),(7,ii s)])
          (fun s => [(1,.box (zej ⟨kt,ki,kx,kb⟩)),(2,.box zeF),(3,.box [.i (strI ⟨#[109]⟩),.i (zbx evs4),.osl 0 69,.i (.v (.slice none 0 0)),.i (.v (.slice none 0 0)),.i (.v (.slice none 0 0)),.i (.v (.slice none 0 0))]),(69,zwY A),
            (5,.box [ints al,ii L,ii ini,ints mk,vrs vr,mvs mo]),(6,.box [.i (strI (zbz 116 i)),.osl 0 63,ssD abc3,ints al,ii L,ii ini,ints mk,vrs vr,mvs mo]),(63,oss ((List.range s).map (zbz 115)))]) (fun _ => O) 295
          (fun s => s ≤ L) (fun s => L - s) 0 (Nat.zero_le _) ⟨rfl,rfl,rfl,rfl,rfl,rfl,rfl,trivial⟩ rfl ⟨rfl,rfl,rfl,rfl,rfl,rfl,rfl,trivial⟩ rfl rfl ?_
        intro s hs ih2
        have hs:s ≤ L:=hs
        refine zah Tk Tryz.func13 ?_
        refine zai Tk Tryz.func13 rfl (fun c3 => ?_) (fun c3 => ?_)
        · have c3:s < L:=by simpa using c3
          have hit2:=hio s (by omega)
          have hsi2:=hsz s (by omega)
          have hs2:(List.range (s + 1)).map (zbz 115) = (List.range s).map (zbz 115) ++ [zbz 115 s]:=by rw [List.range_succ,List.map_append]; rfl
          have hll:((List.range s).map (zbz 115)).length = s:=by simp
          have hj2:ii (IntKind.i64.wrap ((s:Int) + 1)) = ii ((s + 1:Nat):Int):=congrArg ii (zaE (n:=1000001) (by omega) (by decide))
          generalize (List.range s).map (zbz 115) = Q at *
          refine zay Tk Tryz.func13 zaG rfl ?_
          refine zdr Tk hE (hit2 _) rfl rfl rfl rfl ?_
          refine zas Tk (by show 1 + (zdc (s:Int)).size ≤ 9223372036854775807; omega) ?_
          refine zd9 Tk Tryz.func13 ([6,7,8]) (by kernel_rfl) (by kernel_rfl) ?_
          refine zaj Tk Tryz.func13 (by exact ⟨by show (Q.length + 1) * 16 ≤ 140737488355328; omega,by show Q.length + 1 ≤ 9223372036854775807; omega⟩) ?_
          refine zaf ?_
          refine ih2 (s + 1) _ _ c3 (by omega) ⟨rfl,rfl,rfl,rfl,rfl,rfl,hj2,trivial⟩ rfl ⟨rfl,rfl,rfl,rfl,rfl,rfl,?_,trivial⟩ rfl rfl
          rw [hs2]
          exact congrArg some (zcp Q (zbz 115 s))
        · have c3:L ≤ s:=by simpa using c3
          have c3:s = L:=by omega
          rw [c3]
          refine zaz ?_
          refine zav (zap 63 rfl rfl) ?_
          refine zav (za4 rfl) ?_
          refine zah Tk Tryz.func13 ?_
          refine g_go Tk Tryz.func13 ?_
          refine zaj Tk Tryz.func13 (by exact ⟨by show (A.length + 1) * 176 ≤ 140737488355328; omega,by show A.length + 1 ≤ 9223372036854775807; omega⟩) ?_
          refine zaf ?_
          refine ih (i + 1) _ _ (by show i + 1 ≤ _; omega) (by omega) ⟨rfl,rfl,rfl,hj1,trivial⟩ rfl ⟨rfl,rfl,rfl,?_,trivial⟩ rfl rfl
          rw [hsucc]
          show some (Ob.arr 87 9 (A.length + 1) (A.map tplI ++ [tplI ⟨zbz 116 i,(List.range L).map (zbz 115),abc3,⟨al,L,ini,mk,vr,mo⟩⟩]) true) = _
          simp [zwY]
      · have c2:¬ i < 3:=by have:¬ (i:Int) < 3:=of_decide_eq_false c2;omega
        rw [hend (by omega)]
        refine zaz ?_
        refine zav (zap 69 rfl rfl) ?_
        refine zav (za4 rfl) ?_
        exact zaF (J trivial) ⟨rfl,rfl,rfl,trivial⟩ rfl ⟨rfl,rfl,rfl,trivial⟩ rfl rfl
    · have c1:kt.length ≤ i:=by simpa using c1
      rw [hend (by omega)]
      refine gcF Tk Tryz.func13 rfl ?_
      refine zaz ?_
      refine zav (zap 69 rfl rfl) ?_
      refine zav (za4 rfl) ?_
      exact zaF (J trivial) ⟨rfl,rfl,rfl,trivial⟩ rfl ⟨rfl,rfl,rfl,trivial⟩ rfl rfl
  intro _
  have hTb:T.length ≤ 3:=by omega
  clear hMT hTl ht htl
  refine zah Tk Tryz.func13 ?_
  refine g_go Tk Tryz.func13 ?_
  apply zbR (P:=True) (s6:={ σ:=[(1,.own 0 1 0 0),(2,.own 0 2 0 0),(3,.own 0 3 0 0)],S:=[(1,.box (zej ⟨kt,ki,kx,kb⟩)),(2,.box zeF),(3,.box [.i (strI ⟨#[109]⟩),.i (zbx evs4),.i (zcB T),.i (zbB CR.1),.i (zbB CR.2),.i (.v (.slice none 0 0)),.i (.v (.slice none 0 0))])] :: O,n:=295 })
  · intro J
    refine g_wk (zaH 3 155 107 3 (pre:=[.i (strI ⟨#[109]⟩),.i (zbx evs4),.i (zcB T)]) (post:=[.i (.v (.slice none 0 0)),.i (.v (.slice none 0 0)),.i (.v (.slice none 0 0))]) rfl rfl rfl) ?_
    refine g_wk (zaH 3 172 107 3 (pre:=[.i (strI ⟨#[109]⟩),.i (zbx evs4),.i (zcB T),.osl 0 155]) (post:=[.i (.v (.slice none 0 0)),.i (.v (.slice none 0 0))]) rfl rfl rfl) ?_
    refine zaf ?_
    refine zal (fun i:Nat => [(1,.own 0 1 0 0),(2,.own 0 2 0 0),(3,.own 0 3 0 0),(8,ii i)])
      (fun i => [(1,.box (zej ⟨kt,ki,kx,kb⟩)),(2,.box zeF),(3,.box [.i (strI ⟨#[109]⟩),.i (zbx evs4),.i (zcB T),.osl 0 155,.osl 0 172,.i (.v (.slice none 0 0)),.i (.v (.slice none 0 0))]),(155,zcC (insN T.length ki i).1),(172,zcC (insN T.length ki i).2)]) (fun _ => O) 295
      (fun i => i ≤ IC) (fun i => IC - i) 0 (Nat.zero_le _) ⟨rfl,rfl,rfl,rfl,trivial⟩ rfl ⟨rfl,rfl,rfl,rfl,rfl,trivial⟩ rfl rfl ?_
    intro i hi ih
    have hi:i ≤ IC:=hi
    have hend:i = IC → insN T.length ki i = CR:=fun e => by rw [e,hMI]
    have hlen:=zf6 T.length ki i
    refine zah Tk Tryz.func13 ?_
    refine zaA Tk Tryz.func13 rfl (fun c1 => ?_) (fun c1 => ?_)
    rotate_left
    · have c1:ki.length ≤ i:=by simpa using c1
      rw [hend (by omega)]
      refine gkF Tk Tryz.func13 rfl ?_
      refine gcF Tk Tryz.func13 rfl ?_
      refine zaz ?_
      refine zav (zap 155 rfl rfl) ?_
      refine zav (za4 rfl) ?_
      refine zav (zap 172 rfl rfl) ?_
      refine zav (za4 rfl) ?_
      exact zaF (J trivial) ⟨rfl,rfl,rfl,trivial⟩ rfl ⟨rfl,rfl,rfl,trivial⟩ rfl rfl
    have c1:i < ki.length:=by simpa using c1
    refine zaA Tk Tryz.func13 rfl (fun c2 => ?_) (fun c2 => ?_)
    rotate_left
    · have c2:¬ i < 5:=by have:¬ (i:Int) < 5:=of_decide_eq_false c2;omega
      rw [hend (by omega)]
      refine gcF Tk Tryz.func13 rfl ?_
      refine zaz ?_
      refine zav (zap 155 rfl rfl) ?_
      refine zav (za4 rfl) ?_
      refine zav (zap 172 rfl rfl) ?_
      refine zav (za4 rfl) ?_
      exact zaF (J trivial) ⟨rfl,rfl,rfl,trivial⟩ rfl ⟨rfl,rfl,rfl,trivial⟩ rfl rfl
    have c2:i < 5:=by have:(i:Int) < 5:=of_decide_eq_true c2;omega
    refine zai Tk Tryz.func13 rfl (fun c3 => ?_) (fun c3 => ?_)
    rotate_left
    · have c3:T.length = 0:=by simpa using c3
      rw [if_pos c3] at hICe
      rw [hend (by omega)]
      refine zaz ?_
      refine zav (zap 155 rfl rfl) ?_
      refine zav (za4 rfl) ?_
      refine zav (zap 172 rfl rfl) ?_
      refine zav (za4 rfl) ?_
      exact zaF (J trivial) ⟨rfl,rfl,rfl,trivial⟩ rfl ⟨rfl,rfl,rfl,trivial⟩ rfl rfl
    have c3:0 < T.length:=by simpa using c3
    rw [if_neg (by omega)] at hICe
    clear J hend
    have gs:(ki.map useI)[(i:Int).toNat]? = some (useI ki[i]):=zam (f:=useI) c1
    have hu:=huse ki[i] (List.getElem_mem c1)
    have hsucc:=zsc (nt:=T.length) c1
    have hit:=hio i (by omega)
    have hsi:=hsz i (by omega)
    have hj1:ii (IntKind.i64.wrap ((i:Int) + 1)) = ii ((i + 1:Nat):Int):=congrArg ii (zaE (n:=1000001) (by omega) (by decide))
    generalize ki[i] = u at *
    obtain ⟨ut,uo,ur⟩:=u
    simp only at hu
    obtain ⟨q,hq⟩:∃ q:Nat,q = (ut % (T.length:Int)).toNat:=⟨_,rfl⟩
    have hq1:=Int.emod_nonneg ut (show (T.length:Int) ≠ 0 by omega)
    have hq2:=Int.emod_lt_of_pos ut (show 0 < (T.length:Int) by omega)
    have hw:(IntKind.i64.wrap ut).tmod (T.length:Int) = (q:Int):=by
      rw [w64 (by omega) (by omega),Int.tmod_eq_emod_of_nonneg hu.1.1]
      omega
    have hit2:∀ O,zbd g (ptab ty fr) Tryz.prog 27 [ii ((IntKind.i64.wrap ut).tmod (T.length:Int))] O (.i (.v (.string (zdc (q:Int))))) [] O:=by
      rw [hw]
      exact hio q (by omega)
    have hsq:=hsz q (by omega)
    unfold zpV zj0 at hsucc
    simp only [← hq] at hsucc
    have hxe:∀ x ∈ (insN T.length ki i).1,x.evs.length ≤ 1000000:=fun x hx => by
      rw [znt T.length ki i x (List.mem_append_left _ hx)]
      decide
    generalize insN T.length ki i = CRi at *
    refine zaj Tk Tryz.func13 (by exact ⟨by omega,by show (i:Int) < (ki.length:Int); omega⟩) ?_
    refine zaq Tk Tryz.func13 (gs) ?_
    refine zay Tk Tryz.func13 zaG rfl ?_
    refine zdr Tk hE (hit _) rfl rfl rfl rfl ?_
    refine zas Tk (by show 1 + (zdc (i:Int)).size ≤ 9223372036854775807; omega) ?_
    refine zas Tk (by show (T.length:Int) ≠ 0; omega) ?_
    refine zdr Tk hE (hit2 _) rfl rfl rfl rfl ?_
    refine zas Tk (by show 1 + (zdc (q:Int)).size ≤ 9223372036854775807; omega) ?_
    refine zdq Tk rfl rfl rfl ?_
    refine zaI Tk Tryz.func13 (by kernel_rfl) ?_
    clear hit hit2 hio
    have hwo:IntKind.i64.wrap uo = uo:=w64 (by omega) (by omega)
    generalize hev:(ordS uo 3).1 = ev at *
    refine g_wk (zap 106 rfl rfl) ?_
    refine g_wk (zaH 10 123 9 1 (pre:=[.i (strI (zbz 105 i)),.i (strI (zbz 116 q))]) (post:=[]) rfl rfl rfl) ?_
    refine zaf ?_
    refine zal (fun k:Nat => [(1,.own 0 1 0 0),(2,.own 0 2 0 0),(3,.own 0 3 0 0),(8,ii i),(9,.own 0 9 0 0),(10,.own 0 10 0 0),(11,ssD (ordS uo k).2.1),(12,ii (ordS uo k).2.2),(13,ii (4 - (k:Int)))])
      (fun k => [(1,.box (zej ⟨kt,ki,kx,kb⟩)),(2,.box zeF),(3,.box [.i (strI ⟨#[109]⟩),.i (zbx evs4),.i (zcB T),.osl 0 155,.osl 0 172,.i (.v (.slice none 0 0)),.i (.v (.slice none 0 0))]),(155,zcC CRi.1),(172,zcC CRi.2),
        (9,.box [.i (u8J ut),.i (u8J uo),.i (bI ur)]),(10,.box [.i (strI (zbz 105 i)),.i (strI (zbz 116 q)),.osl 0 123]),(123,oss (ordS uo k).1)]) (fun _ => O) 295
      (fun k => k ≤ 3) (fun k => 3 - k) 0 (Nat.zero_le _) ⟨rfl,rfl,rfl,rfl,rfl,rfl,rfl,congrArg ii hwo,rfl,trivial⟩ rfl ⟨rfl,rfl,rfl,rfl,rfl,rfl,rfl,rfl,trivial⟩ rfl rfl ?_
    intro k hk ih2
    have hk:k ≤ 3:=hk
    have hol:=ziz uo hu.2 k hk
    refine zah Tk Tryz.func13 ?_
    refine zai Tk Tryz.func13 rfl (fun c4 => ?_) (fun c4 => ?_)
    · have c4:k < 3:=by have:(4:Int) - k > 1:=of_decide_eq_true c4;omega
      have hS1:(ordS uo (k + 1)).1 = (ordS uo k).1 ++ [(ordS uo k).2.1.getD ((ordS uo k).2.2 % (4 - (k:Int))).toNat ⟨#[]⟩]:=rfl
      have hS2:(ordS uo (k + 1)).2.1 = (ordS uo k).2.1.take ((ordS uo k).2.2 % (4 - (k:Int))).toNat ++ (ordS uo k).2.1.drop (((ordS uo k).2.2 % (4 - (k:Int))).toNat + 1):=rfl
      have hS3:(ordS uo (k + 1)).2.2 = (ordS uo k).2.2 / (4 - (k:Int)):=rfl
      generalize ordS uo k = W at *
      obtain ⟨out,l,a⟩:=W
      simp only at hol hS1 hS2 hS3
      obtain ⟨o1,o2,o3,o4⟩:=hol
      have hm1:=Int.emod_nonneg a (show 4 - (k:Int) ≠ 0 by omega)
      have hm2:=Int.emod_lt_of_pos a (show 0 < 4 - (k:Int) by omega)
      have htm:a.tmod (4 - (k:Int)) = a % (4 - (k:Int)):=Int.tmod_eq_emod_of_nonneg o3
      obtain ⟨j,hj⟩:∃ j:Nat,(j:Int) = a % (4 - (k:Int)):=⟨(a % (4 - (k:Int))).toNat,by omega⟩
      rw [← hj,Int.toNat_natCast] at hS1 hS2
      have htj:a.tmod (4 - (k:Int)) = (j:Int):=by rw [htm,hj]
      have hjl:j < l.length:=by omega
      have gl:(l.map fun s => [strI s])[(a.tmod (4 - (k:Int))).toNat]? = some [strI (l.getD j ⟨#[]⟩)]:=by
        rw [htj,Int.toNat_natCast,List.getElem?_map,List.getD_eq_getElem?_getD,List.getElem?_eq_getElem hjl]
        rfl
      refine zay Tk Tryz.func13 zaG rfl ?_
      refine zas Tk (by show 4 - (k:Int) ≠ 0; omega) ?_
      refine zas Tk (by exact ⟨by show (0:Int) ≤ a.tmod (4 - (k:Int)); omega,by show a.tmod (4 - (k:Int)) < (l.length:Int); omega⟩) ?_
      refine zaJ Tk (gl) ?_
      refine zd9 Tk Tryz.func13 ([9,10,11]) (by kernel_rfl) (by kernel_rfl) ?_
      refine zaj Tk Tryz.func13 (by exact ⟨by show (out.length + 1) * 16 ≤ 140737488355328; omega,by show out.length + 1 ≤ 9223372036854775807; omega⟩) ?_
      have hfr:=zwv l j
      have hwj:IntKind.i64.wrap ((a.tmod (4 - (k:Int))) + 1) = ((j + 1:Nat):Int):=by rw [htj,w64 (by omega) (by omega)]; omega
      have hdv:IntKind.i64.wrap (a.tdiv (4 - (k:Int))) = a / (4 - (k:Int)):=by
        rw [Int.tdiv_eq_ediv_of_nonneg o3]
        have h7:=Int.ediv_nonneg o3 (show 0 ≤ 4 - (k:Int) by omega)
        have h8:=Int.ediv_le_self (4 - (k:Int)) o3
        exact w64 (by omega) (by omega)
      have hk1:IntKind.i64.wrap (4 - (k:Int) - 1) = 4 - ((k + 1:Nat):Int):=by rw [w64 (by omega) (by omega)]; omega
      refine zay Tk Tryz.func13 zaG rfl ?_
      refine zas Tk (by show 4 - (k:Int) ≠ 0; omega) ?_
      refine zas Tk (by exact ⟨by show (0:Int) ≤ a.tmod (4 - (k:Int)); omega,by show a.tmod (4 - (k:Int)) ≤ (l.length:Int); omega⟩) ?_
      refine zuk Tk ?_
      refine zea Tk (by exact ⟨by show (0 + (a.tmod (4 - (k:Int))).toNat) * 16 ≤ 140737488355328; omega,by show 0 + (a.tmod (4 - (k:Int))).toNat ≤ 9223372036854775807; omega⟩) ?_
      refine zlx Tk (p:=⟨[(131,.osl 0 131),(125,.dead)],[(131,.arr 9 1 (0 + (a.tmod (4 - (k:Int))).toNat) ([] ++ (l.map fun s => [strI s]).take (a.tmod (4 - (k:Int))).toNat) true)],some 125⟩) rfl rfl rfl ?_
      refine zea Tk (by show 4 - (k:Int) ≠ 0; omega) ?_
      refine zea Tk (by exact ⟨by show (0:Int) ≤ IntKind.i64.wrap ((a.tmod (4 - (k:Int))) + 1); omega,by show IntKind.i64.wrap ((a.tmod (4 - (k:Int))) + 1) ≤ (l.length:Int); omega⟩) ?_
      refine zea Tk (by exact ⟨by show (0 + (a.tmod (4 - (k:Int))).toNat + (l.length - (IntKind.i64.wrap ((a.tmod (4 - (k:Int))) + 1)).toNat)) * 16 ≤ 140737488355328; omega,by show 0 + (a.tmod (4 - (k:Int))).toNat + (l.length - (IntKind.i64.wrap ((a.tmod (4 - (k:Int))) + 1)).toNat) ≤ 9223372036854775807; omega⟩) ?_
      refine zlx Tk (p:=⟨[(138,.osl 0 138),(131,.dead)],[(138,.arr 9 1 (0 + (a.tmod (4 - (k:Int))).toNat + (l.length - (IntKind.i64.wrap ((a.tmod (4 - (k:Int))) + 1)).toNat)) ([] ++ (l.map fun s => [strI s]).take (a.tmod (4 - (k:Int))).toNat ++ (l.map fun s => [strI s]).drop (IntKind.i64.wrap ((a.tmod (4 - (k:Int))) + 1)).toNat) true)],some 131⟩) rfl rfl rfl ?_
      refine zkn Tk Tryz.func13 (by kernel_rfl) (GM.h ?_)
      refine zaj Tk Tryz.func13 (by show 4 - (k:Int) ≠ 0; omega) ?_
      refine zaf ?_
      refine zav (zap 138 rfl rfl) ?_
      refine ih2 (k + 1) _ _ (by show k + 1 ≤ 3; omega) (by omega) ⟨rfl,rfl,rfl,rfl,rfl,rfl,?_,?_,congrArg ii hk1,trivial⟩ rfl ⟨rfl,rfl,rfl,rfl,rfl,rfl,rfl,?_,trivial⟩ rfl rfl
      · show D.i (.sl 1 (0 + (a.tmod (4 - (k:Int))).toNat + (l.length - (IntKind.i64.wrap ((a.tmod (4 - (k:Int))) + 1)).toNat)) ([] ++ (l.map fun s => [strI s]).take (a.tmod (4 - (k:Int))).toNat ++ (l.map fun s => [strI s]).drop (IntKind.i64.wrap ((a.tmod (4 - (k:Int))) + 1)).toNat)) = ssD (ordS uo (k + 1)).2.1
        rw [hS2,← hfr hjl,hwj,htj]
      · show ii (IntKind.i64.wrap (a.tdiv (4 - (k:Int)))) = ii (ordS uo (k + 1)).2.2
        rw [hS3,hdv]
      · show some (Ob.arr 9 1 (out.length + 1) (out.map (fun s => [strI s]) ++ [[strI (l.getD j ⟨#[]⟩)]]) true) = some (oss (ordS uo (k + 1)).1)
        rw [hS1]
        exact congrArg some (zcp out _)
    · have c4:¬ k < 3:=by have:¬ (4:Int) - k > 1:=of_decide_eq_false c4;omega
      have hk3:k = 3:=by omega
      subst hk3
      rw [hev]
      refine zaz ?_
      refine zav (zap 123 rfl rfl) ?_
      refine zav (za4 rfl) ?_
      refine zah Tk Tryz.func13 ?_
      refine g_go Tk Tryz.func13 ?_
      have hev3:ev.length = 3:=by rw [← hev]; exact (ziz uo hu.2 3 (by decide)).1
      have hcov:=fun O => zvr O CRi.1 ev (by omega) (by omega) hxe
      clear ih2 hol hev
      apply zbR (P:=¬ (ur = false ∧ CRi.1.length < 3)) (s6:={ σ:=[(1,.own 0 1 0 0),(2,.own 0 2 0 0),(3,.own 0 3 0 0),(8,ii i),(10,.own 0 10 0 0)],S:=[(1,.box (zej ⟨kt,ki,kx,kb⟩)),(2,.box zeF),(3,.box [.i (strI ⟨#[109]⟩),.i (zbx evs4),.i (zcB T),.osl 0 155,.osl 0 172,.i (.v (.slice none 0 0)),.i (.v (.slice none 0 0))]),(155,zcC CRi.1),(172,zcC CRi.2),(10,.box [.i (strI (zbz 105 i)),.i (strI (zbz 116 q)),ssD ev])] :: O,n:=295 })
      · intro J
        refine zaA Tk Tryz.func13 rfl (fun d1 => ?_) (fun d1 => ?_)
        · have d1:ur = false:=by simpa using d1
          refine zai Tk Tryz.func13 rfl (fun d2 => ?_) (fun d2 => ?_)
          · have d2:CRi.1.length < 3:=by have:(CRi.1.length:Int) < 3:=of_decide_eq_true d2;omega
            rw [if_pos ⟨d1,d2⟩] at hsucc
            refine zaj Tk Tryz.func13 (by exact ⟨by show (CRi.1.length + 1) * 56 ≤ 140737488355328; omega,by show CRi.1.length + 1 ≤ 9223372036854775807; omega⟩) ?_
            refine zaf ?_
            refine ih (i + 1) _ _ (by show i + 1 ≤ IC; omega) (by omega) ⟨rfl,rfl,rfl,hj1,trivial⟩ rfl ⟨rfl,rfl,rfl,?_,?_,trivial⟩ rfl rfl
            · show some (Ob.arr 107 3 (CRi.1.length + 1) (CRi.1.map insI ++ [insI ⟨zbz 105 i,zbz 116 q,ev⟩]) true) = some (zcC (insN T.length ki (i + 1)).1)
              rw [hsucc]
              simp [zcC]
            · show some (zcC CRi.2) = some (zcC (insN T.length ki (i + 1)).2)
              rw [hsucc]
          · have d2:¬ CRi.1.length < 3:=by have:¬ (CRi.1.length:Int) < 3:=of_decide_eq_false d2;omega
            refine zaz ?_
            exact zaF (J fun h => d2 h.2) ⟨rfl,rfl,rfl,rfl,rfl,trivial⟩ rfl ⟨rfl,rfl,rfl,rfl,rfl,rfl,trivial⟩ rfl rfl
        · have d1:ur = true:=by simpa using d1
          refine gcF Tk Tryz.func13 rfl ?_
          refine zaz ?_
          exact zaF (J fun h => by rw [d1] at h; cases h.1) ⟨rfl,rfl,rfl,rfl,rfl,trivial⟩ rfl ⟨rfl,rfl,rfl,rfl,rfl,rfl,trivial⟩ rfl rfl
      intro hP
      rw [if_neg hP] at hsucc
      refine zah Tk Tryz.func13 ?_
      refine g_go Tk Tryz.func13 ?_
      refine zcl Tk Tryz.func13 rfl rfl rfl rfl (zbs (hcov []) (zfJ _) (.osl (.i .nil)) rfl (show 161 < 295 by decide) rfl rfl) ?_
      generalize covB CRi.1 ev = cb at *
      refine zaA Tk Tryz.func13 rfl (fun d1 => ?_) (fun d1 => ?_)
      · have d1:cb = true:=d1
        refine zai Tk Tryz.func13 rfl (fun d2 => ?_) (fun d2 => ?_)
        · have d2:CRi.2.length < 2:=by have:(CRi.2.length:Int) < 2:=of_decide_eq_true d2;omega
          rw [if_pos ⟨d1,d2⟩] at hsucc
          refine zaj Tk Tryz.func13 (by exact ⟨by show (CRi.2.length + 1) * 56 ≤ 140737488355328; omega,by show CRi.2.length + 1 ≤ 9223372036854775807; omega⟩) ?_
          refine zaf ?_
          refine ih (i + 1) _ _ (by show i + 1 ≤ IC; omega) (by omega) ⟨rfl,rfl,rfl,hj1,trivial⟩ rfl ⟨rfl,rfl,rfl,?_,?_,trivial⟩ rfl rfl
          · show some (zcC CRi.1) = some (zcC (insN T.length ki (i + 1)).1)
            rw [hsucc]
          · show some (Ob.arr 107 3 (CRi.2.length + 1) (CRi.2.map insI ++ [insI ⟨zbz 105 i,zbz 116 q,ev⟩]) true) = some (zcC (insN T.length ki (i + 1)).2)
            rw [hsucc]
            simp [zcC]
        · have d2:¬ CRi.2.length < 2:=by have:¬ (CRi.2.length:Int) < 2:=of_decide_eq_false d2;omega
          rw [if_neg (fun h => d2 h.2)] at hsucc
          refine zaf ?_
          refine ih (i + 1) _ _ (by show i + 1 ≤ IC; omega) (by omega) ⟨rfl,rfl,rfl,hj1,trivial⟩ rfl ⟨rfl,rfl,rfl,?_,?_,trivial⟩ rfl rfl
          · show some (zcC CRi.1) = some (zcC (insN T.length ki (i + 1)).1)
            rw [hsucc]
          · show some (zcC CRi.2) = some (zcC (insN T.length ki (i + 1)).2)
            rw [hsucc]
      · have d1:cb = false:=d1
        rw [if_neg (fun h => by rw [d1] at h; cases h.1)] at hsucc
        refine gcF Tk Tryz.func13 rfl ?_
        refine zaf ?_
        refine ih (i + 1) _ _ (by show i + 1 ≤ IC; omega) (by omega) ⟨rfl,rfl,rfl,hj1,trivial⟩ rfl ⟨rfl,rfl,rfl,?_,?_,trivial⟩ rfl rfl
        · show some (zcC CRi.1) = some (zcC (insN T.length ki (i + 1)).1)
          rw [hsucc]
        · show some (zcC CRi.2) = some (zcC (insN T.length ki (i + 1)).2)
          rw [hsucc]
  intro _
  have hCl:=zf6 T.length ki IC
  rw [← hMI] at hCl
  clear hMI hIC hICe huse hil
  obtain ⟨C,Q⟩:=CR
  simp only at hCl hR htpl
  refine zah Tk Tryz.func13 ?_
  refine g_go Tk Tryz.func13 ?_
  refine zai Tk Tryz.func13 rfl (fun z1 => ?_) (fun z1 => ?_)
  · have z1:C.length = 0:=by simpa using z1
    rw [if_pos z1] at hR
    subst hR
    refine zax Tk (r:=.agg [.i (strI ⟨#[109]⟩),.i (zbx evs4),.i (zcB T),.i (zbB C),.i (zbB Q),.i (.v (.slice none 0 0)),.i (.v (.slice none 0 0))]) rfl rfl rfl trivial rfl rfl ?_
    repeat' (first | refine zbi ?_ | refine za9 ?_ | refine zbO ?_ | refine CoDL.cons ?_ ?_ | exact CoDL.nil | exact zaX | refine zbH ?_ | refine CoLL.cons ?_ ?_ | exact CoLL.nil | refine CoL.cons ?_ ?_ | exact CoL.nil | exact CoI.refl _ | exact CoL.refl _ | exact CoLL.refl _ | exact CoDL.refl _ | exact CoD.refl _)
  have z1:¬ C.length = 0:=by simpa using z1
  rw [if_neg z1] at hR
  have hCb:0 < C.length ∧ C.length ≤ 3:=by omega
  apply zbR (P:=True) (s6:={ σ:=[(1,.own 0 1 0 0),(2,.own 0 2 0 0),(3,.own 0 3 0 0)],S:=[(1,.box (zej ⟨kt,ki,kx,kb⟩)),(2,.box zeF),(3,.box [.i (strI ⟨#[109]⟩),.i (zbx evs4),.i (zcB T),.i (zbB C),.i (zbB Q),.i (zjI (zey T C kx (min kx.length 2))),.i (.v (.slice none 0 0))])] :: O,n:=295 })
  · intro J
    refine g_wk (zaH 3 256 91 2 (pre:=[.i (strI ⟨#[109]⟩),.i (zbx evs4),.i (zcB T),.i (zbB C),.i (zbB Q)]) (post:=[.i (.v (.slice none 0 0))]) rfl rfl rfl) ?_
    refine zaf ?_
    refine zal (fun i:Nat => [(1,.own 0 1 0 0),(2,.own 0 2 0 0),(3,.own 0 3 0 0),(14,ii i)])
      (fun i => [(1,.box (zej ⟨kt,ki,kx,kb⟩)),(2,.box zeF),(3,.box [.i (strI ⟨#[109]⟩),.i (zbx evs4),.i (zcB T),.i (zbB C),.i (zbB Q),.osl 0 256,.i (.v (.slice none 0 0))]),(256,ziB (zey T C kx i))]) (fun _ => O) 295
      (fun i => i ≤ min kx.length 2) (fun i => min kx.length 2 - i) 0 (Nat.zero_le _) ⟨rfl,rfl,rfl,rfl,trivial⟩ rfl ⟨rfl,rfl,rfl,rfl,trivial⟩ rfl rfl ?_
    intro i hi ih
    have hi:i ≤ min kx.length 2:=hi
    have hend:i = min kx.length 2 → zey T C kx i = zey T C kx (min kx.length 2):=fun e => by rw [e]
    have hlen:=zsA T C kx i
    refine zah Tk Tryz.func13 ?_
    refine zaA Tk Tryz.func13 rfl (fun c1 => ?_) (fun c1 => ?_)
    rotate_left
    · have c1:kx.length ≤ i:=by simpa using c1
      rw [hend (by omega)]
      refine gcF Tk Tryz.func13 rfl ?_
      refine zaz ?_
      refine zav (zap 256 rfl rfl) ?_
      refine zav (za4 rfl) ?_
      exact zaF (J trivial) ⟨rfl,rfl,rfl,trivial⟩ rfl ⟨rfl,rfl,rfl,trivial⟩ rfl rfl
    have c1:i < kx.length:=by simpa using c1
    refine zai Tk Tryz.func13 rfl (fun c2 => ?_) (fun c2 => ?_)
    rotate_left
    · have c2:¬ i < 2:=by have:¬ (i:Int) < 2:=of_decide_eq_false c2;omega
      rw [hend (by omega)]
      refine zaz ?_
      refine zav (zap 256 rfl rfl) ?_
      refine zav (za4 rfl) ?_
      exact zaF (J trivial) ⟨rfl,rfl,rfl,trivial⟩ rfl ⟨rfl,rfl,rfl,trivial⟩ rfl rfl
    have c2:i < 2:=by have:(i:Int) < 2:=of_decide_eq_true c2;omega
    clear J hend
    have gs:(kx.map whrI)[(i:Int).toNat]? = some (whrI kx[i]):=zam (f:=whrI) c1
    have hwo:=he kx[i] (List.getElem_mem c1)
    have hsucc:=zp0 (T:=T) (C:=C) c1
    unfold zvl at hsucc
    have hit:=hio i (by omega)
    have hsi:=hsz i (by omega)
    have hj1:ii (IntKind.i64.wrap ((i:Int) + 1)) = ii ((i + 1:Nat):Int):=congrArg ii (zaE (n:=1000001) (by omega) (by decide))
    generalize kx[i] = w at *
    obtain ⟨⟨wc,wl⟩,⟨vc,vl⟩⟩:=w
    simp only at hwo hsucc
    obtain ⟨x,t,s,g1,g2,g3,g4,g5,g6,g7⟩:=zsB hTloc htpl hCb hwo.1
    obtain ⟨x',t',s',f1,f2,f3,f4,f5,f6,f7⟩:=zsB hTloc htpl hCb hwo.2
    rw [g7 []] at hsucc
    simp only [Bool.false_eq_true,if_false,List.nil_append] at hsucc
    rw [f7] at hsucc
    simp only at hsucc
    have hto:=fun O => zeJ O ⟨⟨#[109]⟩,evs4,T,C,Q,[],[]⟩ 0 256 x t (by show T.length ≤ 1000000; omega) g3
    have hto':=fun O => zeJ O ⟨⟨#[109]⟩,evs4,T,C,Q,[],[]⟩ 0 256 x' t' (by show T.length ≤ 1000000; omega) f3
    clear g7 f7 g3 f3
    generalize zey T C kx i = A at *
    obtain ⟨xn,xt,xe⟩:=x
    obtain ⟨yn,yt,ye⟩:=x'
    obtain ⟨tn,tl,te,⟨tal,tlo,tini,tmk,tvr,tmo⟩⟩:=t
    obtain ⟨un,ul,ue,⟨ual,ulo,uini,umk,uvr,umo⟩⟩:=t'
    simp only at hsucc g4 g5 g6 f4 f5 f6
    refine zbc Tk Tryz.func13 hE (hit _) rfl rfl rfl rfl rfl rfl ?_
    refine zaj Tk Tryz.func13 (by show 1 + (zdc (i:Int)).size ≤ 9223372036854775807; omega) ?_
    refine g_wk (zaH 15 250 103 2 (pre:=[.i (strI (zbz 120 i))]) (post:=[]) rfl rfl rfl) ?_
    refine zaf ?_
    refine zav (zdi (l:=[(1,.own 0 1 0 0),(2,.own 0 2 0 0),(3,.own 0 3 0 0),(14,ii i),(15,.own 0 15 0 0),(16,ii 0)]) (Hv:=[(1,.box (zej ⟨kt,ki,kx,kb⟩)),(2,.box zeF),(3,.box [.i (strI ⟨#[109]⟩),.i (zbx evs4),.i (zcB T),.i (zbB C),.i (zbB Q),.osl 0 256,.i (.v (.slice none 0 0))]),(256,ziB A),(15,.box [.i (strI (zbz 120 i)),.osl 0 250]),(250,zuI [])]) ⟨rfl,rfl,rfl,rfl,rfl,rfl,trivial⟩ rfl ⟨rfl,rfl,rfl,rfl,rfl,rfl,trivial⟩ rfl rfl) ?_
    refine zah Tk Tryz.func13 ?_
    refine gcT Tk Tryz.func13 rfl ?_
    refine zaj Tk Tryz.func13 (by exact ⟨by omega,by show (i:Int) < (kx.length:Int); omega⟩) ?_
    refine zaj Tk Tryz.func13 (by decide) ?_
    refine zaq Tk Tryz.func13 (gs) ?_
    refine zay Tk Tryz.func13 zaG rfl ?_
    refine zas Tk (by show (C.length:Int) ≠ 0; omega) ?_
    refine zas Tk (by exact g2) ?_
    refine zaJ Tk (g1) ?_
    refine zdq Tk rfl rfl rfl ?_
    refine zaI Tk Tryz.func13 (by kernel_rfl) ?_
    refine zay Tk Tryz.func13 zaG rfl ?_
    refine skF Tk ?_
    refine zaI Tk Tryz.func13 (by kernel_rfl) ?_
    refine gcF Tk Tryz.func13 rfl ?_
    refine zag Tk Tryz.func13 (hto _) rfl rfl rfl rfl rfl ?_
    refine zay Tk Tryz.func13 zaG rfl ?_
    refine zas Tk (by show (tl.length:Int) ≠ 0; omega) ?_
    refine zas Tk (by exact g6) ?_
    refine zaJ Tk (g5) ?_
    refine zd9 Tk Tryz.func13 ([17,18,19]) (by kernel_rfl) (by kernel_rfl) ?_
    refine zaj Tk Tryz.func13 (by decide) ?_
    refine zaf ?_
    refine zav (zdi (l:=[(1,.own 0 1 0 0),(2,.own 0 2 0 0),(3,.own 0 3 0 0),(14,ii i),(15,.own 0 15 0 0),(16,ii 1)]) (Hv:=[(1,.box (zej ⟨kt,ki,kx,kb⟩)),(2,.box zeF),(3,.box [.i (strI ⟨#[109]⟩),.i (zbx evs4),.i (zcB T),.i (zbB C),.i (zbB Q),.osl 0 256,.i (.v (.slice none 0 0))]),(256,ziB A),(15,.box [.i (strI (zbz 120 i)),.osl 0 250]),(250,zuI [(xn,s)])]) ⟨rfl,rfl,rfl,rfl,rfl,rfl,trivial⟩ rfl ⟨rfl,rfl,rfl,rfl,rfl,rfl,trivial⟩ rfl rfl) ?_
    refine zah Tk Tryz.func13 ?_
    refine gcT Tk Tryz.func13 rfl ?_
    refine zaj Tk Tryz.func13 (by exact ⟨by omega,by show (i:Int) < (kx.length:Int); omega⟩) ?_
    refine zaj Tk Tryz.func13 (by decide) ?_
    refine zaq Tk Tryz.func13 (gs) ?_
    refine zay Tk Tryz.func13 zaG rfl ?_
    refine zas Tk (by show (C.length:Int) ≠ 0; omega) ?_
    refine zas Tk (by exact f2) ?_
    refine zaJ Tk (f1) ?_
    refine zdq Tk rfl rfl rfl ?_
    refine zaI Tk Tryz.func13 (by kernel_rfl) ?_
    refine zay Tk Tryz.func13 zaG rfl ?_
    refine skT Tk ?_
    refine zas Tk (by exact ⟨Int.le_refl _,Int.zero_lt_one⟩) ?_
    refine zaJ Tk (rfl) ?_
    refine zaI Tk Tryz.func13 (by kernel_rfl) ?_
    refine zai Tk Tryz.func13 rfl (fun e1 => ?_) (fun e1 => ?_)
    · have e1:(xn.toList == yn.toList) = true:=e1
      rw [zbb] at e1
      rw [if_pos e1] at hsucc
      refine zaf ?_
      refine zav (zdi (l:=[(1,.own 0 1 0 0),(2,.own 0 2 0 0),(3,.own 0 3 0 0),(14,ii i),(15,.own 0 15 0 0),(16,ii 2)]) (Hv:=[(1,.box (zej ⟨kt,ki,kx,kb⟩)),(2,.box zeF),(3,.box [.i (strI ⟨#[109]⟩),.i (zbx evs4),.i (zcB T),.i (zbB C),.i (zbB Q),.osl 0 256,.i (.v (.slice none 0 0))]),(256,ziB A),(15,.box [.i (strI (zbz 120 i)),.osl 0 250]),(250,zuI [(xn,s)])]) ⟨rfl,rfl,rfl,rfl,rfl,rfl,trivial⟩ rfl ⟨rfl,rfl,rfl,rfl,rfl,rfl,trivial⟩ rfl rfl) ?_
      refine zah Tk Tryz.func13 ?_
      refine gcF Tk Tryz.func13 rfl ?_
      refine zaz ?_
      refine zav (zap 250 rfl rfl) ?_
      refine zav (za4 rfl) ?_
      refine zah Tk Tryz.func13 ?_
      refine g_go Tk Tryz.func13 ?_
      refine zaj Tk Tryz.func13 (by exact ⟨by show (A.length + 1) * 40 ≤ 140737488355328; omega,by show A.length + 1 ≤ 9223372036854775807; omega⟩) ?_
      refine zaf ?_
      refine ih (i + 1) _ _ (by show i + 1 ≤ _; omega) (by omega) ⟨rfl,rfl,rfl,hj1,trivial⟩ rfl ⟨rfl,rfl,rfl,?_,trivial⟩ rfl rfl
      show some (Ob.arr 91 2 (A.length + 1) (A.map nexI ++ [nexI ⟨zbz 120 i,[(xn,s)]⟩]) true) = some (ziB (zey T C kx (i + 1)))
      rw [hsucc]
      simp [ziB]
    · have e1:(xn.toList == yn.toList) = false:=e1
      rw [zbb] at e1
      rw [if_neg (zgF e1)] at hsucc
      refine zag Tk Tryz.func13 (hto' _) rfl rfl rfl rfl rfl ?_
      refine zay Tk Tryz.func13 zaG rfl ?_
      refine zas Tk (by show (ul.length:Int) ≠ 0; omega) ?_
      refine zas Tk (by exact f6) ?_
      refine zaJ Tk (f5) ?_
      refine zd9 Tk Tryz.func13 ([17,18,19]) (by kernel_rfl) (by kernel_rfl) ?_
      refine zaj Tk Tryz.func13 (by exact ⟨by show (1 + 1) * 32 ≤ 140737488355328; decide,by show 1 + 1 ≤ 9223372036854775807; decide⟩) ?_
      refine zaf ?_
      refine zav (zdi (l:=[(1,.own 0 1 0 0),(2,.own 0 2 0 0),(3,.own 0 3 0 0),(14,ii i),(15,.own 0 15 0 0),(16,ii 2)]) (Hv:=[(1,.box (zej ⟨kt,ki,kx,kb⟩)),(2,.box zeF),(3,.box [.i (strI ⟨#[109]⟩),.i (zbx evs4),.i (zcB T),.i (zbB C),.i (zbB Q),.osl 0 256,.i (.v (.slice none 0 0))]),(256,ziB A),(15,.box [.i (strI (zbz 120 i)),.osl 0 250]),(250,zuI [(xn,s),(yn,s')])]) ⟨rfl,rfl,rfl,rfl,rfl,rfl,trivial⟩ rfl ⟨rfl,rfl,rfl,rfl,rfl,rfl,trivial⟩ rfl rfl) ?_
      refine zah Tk Tryz.func13 ?_
      refine gcF Tk Tryz.func13 rfl ?_
      refine zaz ?_
      refine zav (zap 250 rfl rfl) ?_
      refine zav (za4 rfl) ?_
      refine zah Tk Tryz.func13 ?_
      refine g_go Tk Tryz.func13 ?_
      refine zaj Tk Tryz.func13 (by exact ⟨by show (A.length + 1) * 40 ≤ 140737488355328; omega,by show A.length + 1 ≤ 9223372036854775807; omega⟩) ?_
      refine zaf ?_
      refine ih (i + 1) _ _ (by show i + 1 ≤ _; omega) (by omega) ⟨rfl,rfl,rfl,hj1,trivial⟩ rfl ⟨rfl,rfl,rfl,?_,trivial⟩ rfl rfl
      show some (Ob.arr 91 2 (A.length + 1) (A.map nexI ++ [nexI ⟨zbz 120 i,[(xn,s),(yn,s')]⟩]) true) = some (ziB (zey T C kx (i + 1)))
      rw [hsucc]
      simp [ziB]
  intro _
  clear hTloc htpl he hel hsz hio
  generalize zey T C kx (min kx.length 2) = X at *
  refine zah Tk Tryz.func13 ?_
  refine g_go Tk Tryz.func13 ?_
  refine zai Tk Tryz.func13 rfl (fun b1 => ?_) (fun b1 => ?_)
  rotate_left
  · have b1:¬ kb > 0:=by simpa using b1
    rw [if_neg b1] at hR
    subst hR
    refine zaz ?_
    refine zah Tk Tryz.func13 ?_
    refine g_go Tk Tryz.func13 ?_
    refine zax Tk (r:=.agg [.i (strI ⟨#[109]⟩),.i (zbx evs4),.i (zcB T),.i (zbB C),.i (zbB Q),.i (zjI X),.i (.v (.slice none 0 0))]) rfl rfl rfl trivial rfl rfl ?_
    repeat' (first | refine zbi ?_ | refine za9 ?_ | refine zbO ?_ | refine CoDL.cons ?_ ?_ | exact CoDL.nil | exact zaX | refine zbH ?_ | refine CoLL.cons ?_ ?_ | exact CoLL.nil | refine CoL.cons ?_ ?_ | exact CoL.nil | exact CoI.refl _ | exact CoL.refl _ | exact CoLL.refl _ | exact CoDL.refl _ | exact CoD.refl _)
  have b1:kb > 0:=by simpa using b1
  rw [if_pos b1] at hR
  unfold zyI at hR
  have hkb:IntKind.i64.wrap (kb.tmod 5) = kb % 5:=by rw [Int.tmod_eq_emod_of_nonneg (by omega),w64 (by omega) (by omega)]
  have hn1:IntKind.i64.wrap ((C.length:Int) - 1) = (C.length:Int) - 1:=w64 (by omega) (by omega)
  refine zaj Tk Tryz.func13 (by decide) ?_
  refine g_wk (zaH 20 286 93 2 (pre:=[.i (strI ⟨#[99]⟩)]) (post:=[ii (IntKind.i64.wrap (kb.tmod 5))]) rfl rfl rfl) ?_
  refine zaf ?_
  refine zal (fun r:Nat => [(1,.own 0 1 0 0),(2,.own 0 2 0 0),(3,.own 0 3 0 0),(20,.own 0 20 0 0),(21,ii ((C.length:Int) - 1 - r))])
    (fun r => [(1,.box (zej ⟨kt,ki,kx,kb⟩)),(2,.box zeF),(3,.box [.i (strI ⟨#[109]⟩),.i (zbx evs4),.i (zcB T),.i (zbB C),.i (zbB Q),.i (zjI X),.i (.v (.slice none 0 0))]),(20,.box [.i (strI ⟨#[99]⟩),.osl 0 286,ii (IntKind.i64.wrap (kb.tmod 5))]),(286,zw1 ((zcE C).take r))]) (fun _ => O) 295
    (fun r => r ≤ C.length) (fun r => C.length - r) 0 (Nat.zero_le _) ⟨rfl,rfl,rfl,rfl,by rw [show (C.length:Int) - 1 - ((0:Nat):Int) = (C.length:Int) - 1 by omega]; exact congrArg ii hn1,trivial⟩ rfl ⟨rfl,rfl,rfl,rfl,rfl,trivial⟩ rfl rfl ?_
  intro r hr ih
  have hr:r ≤ C.length:=hr
  refine zah Tk Tryz.func13 ?_
  refine zai Tk Tryz.func13 rfl (fun c1 => ?_) (fun c1 => ?_)
  · have c1:(C.length:Int) - 1 - r ≥ 0:=of_decide_eq_true c1
    have c1:r < C.length:=by omega
    have gs:(C.map insI)[((C.length:Int) - 1 - r).toNat]? = some (insI C[C.length - 1 - r]):=by
      rw [show ((C.length:Int) - 1 - r) = ((C.length - 1 - r:Nat):Int) by omega]
      exact zam (f:=insI) (by omega)
    have ht:=zkM c1
    have hll:((zcE C).take r).length ≤ 3:=by
      rw [List.length_take,zdI]
      omega
    have hw1:IntKind.i64.wrap (1 + ((C.length:Int) - 1 - r)) = 1 + ((C.length - 1 - r:Nat):Int):=by rw [w64 (by omega) (by omega)]; omega
    have hw2:ii (IntKind.i64.wrap ((C.length:Int) - 1 - r - 1)) = ii ((C.length:Int) - 1 - ((r + 1:Nat):Int)):=by
      rw [w64 (by omega) (by omega),show (C.length:Int) - 1 - r - 1 = (C.length:Int) - 1 - ((r + 1:Nat):Int) by omega]
    generalize (zcE C).take r = A at *
    generalize C[C.length - 1 - r] = x at *
    obtain ⟨xn,xt,xe⟩:=x
    simp only at ht
    refine zay Tk Tryz.func13 zaG rfl ?_
    refine zas Tk (by exact ⟨by omega,by show (C.length:Int) - 1 - r < (C.length:Int); omega⟩) ?_
    refine zaJ Tk (gs) ?_
    refine zd9 Tk Tryz.func13 ([12,13,14]) (by kernel_rfl) (by kernel_rfl) ?_
    refine zaj Tk Tryz.func13 (by exact ⟨by show (A.length + 1) * 24 ≤ 140737488355328; omega,by show A.length + 1 ≤ 9223372036854775807; omega⟩) ?_
    refine zaf ?_
    refine ih (r + 1) _ _ c1 (by omega) ⟨rfl,rfl,rfl,rfl,hw2,trivial⟩ rfl ⟨rfl,rfl,rfl,rfl,?_,trivial⟩ rfl rfl
    show some (Ob.arr 93 2 (A.length + 1) (A.map ntmI ++ [ntmI (xn,IntKind.i64.wrap (1 + ((C.length:Int) - 1 - r)))]) true) = some (zw1 ((zcE C).take (r + 1)))
    rw [ht,hw1]
    simp [zw1]
  · have c1:¬ (C.length:Int) - 1 - r ≥ 0:=of_decide_eq_false c1
    have hrC:(zcE C).take r = zcE C:=List.take_of_length_le (by rw [zdI]; omega)
    rw [hrC]
    refine zaz ?_
    refine zav (zap 286 rfl rfl) ?_
    refine zav (za4 rfl) ?_
    refine zav (zaH 3 292 96 3 (pre:=[.i (strI ⟨#[109]⟩),.i (zbx evs4),.i (zcB T),.i (zbB C),.i (zbB Q),.i (zjI X)]) (post:=[]) rfl rfl rfl) ?_
    refine zah Tk Tryz.func13 ?_
    refine g_go Tk Tryz.func13 ?_
    refine zaj Tk Tryz.func13 (by decide) ?_
    refine zaz ?_
    refine zav (zap 292 rfl rfl) ?_
    refine zav (za4 rfl) ?_
    refine zah Tk Tryz.func13 ?_
    refine g_go Tk Tryz.func13 ?_
    refine zae Tk (r:=mdlD ⟨⟨#[109]⟩,evs4,T,C,Q,X,[⟨⟨#[99]⟩,zcE C,IntKind.i64.wrap (kb.tmod 5)⟩]⟩) rfl rfl rfl trivial rfl rfl ?_
    rw [hkb]
    exact congrArg mdlD hR
mutual
def esz:Ex → Nat
 | .mk _ _ _ args => 1 + eszs args
def eszs:List Ex → Nat
 | [] => 0
 | e :: r => esz e + eszs r
end
mutual
def edep:Ex → Nat
 | .mk _ _ _ args => 1 + zlv args
def zlv:List Ex → Nat
 | [] => 0
 | e :: r => max (edep e) (zlv r)
end
mutual
theorem znB:∀ (x:Ex) (n:Int) (lvl c:Nat),wfE n x → c + esz x ≤ 64 → lvl + edep x ≤ 9 → zcm x n lvl c = (0,((c + esz x:Nat):Int))
 | .mk op v ix args,n,lvl,c,hw,hc,hl => by
  simp only [esz] at hc ⊢
  simp only [edep] at hl
  simp only [wfE] at hw
  simp only [zcm]
  rw [if_neg (by omega),if_neg (by rw [hw.1]; simp)]
  have:=zka args n (lvl + 1) (c + 1) hw.2 (by omega) (by omega)
  rw [show ((lvl:Int) + 1) = ((lvl + 1:Nat):Int) by omega,show ((c:Int) + 1) = ((c + 1:Nat):Int) by omega,this]
  rw [show c + (1 + eszs args) = c + 1 + eszs args by omega]
theorem zka:∀ (l:List Ex) (n:Int) (lvl c:Nat),wfEs n l → c + eszs l ≤ 64 → lvl + zlv l ≤ 9 → zcJ l n lvl c = (0,((c + eszs l:Nat):Int))
 | [],n,lvl,c,_,_,_ => rfl
 | e :: r,n,lvl,c,hw,hc,hl => by
  simp only [eszs] at hc ⊢
  simp only [zlv] at hl
  simp only [wfEs] at hw
  simp only [zcJ]
  have h1:=znB e n lvl c hw.1 (by omega) (by omega)
  rw [h1]
  simp only [ne_eq,not_true_eq_false,if_false]
  rw [zka r n lvl (c + esz e) hw.2 (by omega) (by omega)]
  rw [show c + (esz e + eszs r) = c + esz e + eszs r by omega]
end
mutual
theorem zsE:∀ (x:Ex) (n:Int),wfE n x → exOk x
 | .mk op v ix args,n,h => by
  simp only [wfE] at h
  obtain ⟨_,h2,_⟩:=zbV h.1
  have:=zgd op
  exact ⟨by simp only [zao]; omega,znH args n h.2⟩
theorem znH:∀ (l:List Ex) (n:Int),wfEs n l → zkj l
 | [],_,_ => trivial
 | e :: r,n,h => by
  simp only [wfEs] at h
  exact ⟨zsE e n h.1,znH r n h.2⟩
end
theorem zmZ {x:Ex} {n k:Int} (hn:0 ≤ n) (hn2:n ≤ 16) (hw:wfE n x) (hs:esz x ≤ 64) (hd:edep x ≤ 8) (hk:zbf x = k) (hk0:k ≠ 0):zbl x n k = 0:=by
 have h1:=znB x n 1 0 hw (by omega) (by omega)
 have h2:zb1 x n = (k,0):=by
  unfold zb1
  have h1':zcm x n 1 0 = (0,((0 + esz x:Nat):Int)):=h1
  rw [if_neg (by omega),h1']
  rw [if_neg (by simp),if_neg (by rw [hk]; exact hk0),hk]
 unfold zbl
 rw [h2,if_neg (by simp)]
theorem fh2 {op n:Int} (h:op = 2 ∨ op = 3 ∨ op = 4 ∨ op = 6 ∨ op = 7 ∨ op = 8 ∨ op = 9 ∨ op = 11 ∨ op = 12):zaS op 0 0 2 n = 0:=by
 rcases h with rfl | rfl | rfl | rfl | rfl | rfl | rfl | rfl | rfl <;> rfl
theorem fh1 {op n:Int} (h:op = 5 ∨ op = 10):zaS op 0 0 1 n = 0:=by
 rcases h with rfl | rfl <;> rfl
theorem fh3 {n:Int}:zaS 13 0 0 3 n = 0:=rfl
structure grown (vars:Int) (lv:Nat) (t:Bool) (k:Nat) (r:Ex × List Int × Nat):Prop where
 wf:wfE vars r.1
 kind:zbf r.1 = tyOf t
 dep:edep r.1 ≤ lv + 2
 cnt:k < r.2.2
 sz:esz r.1 + 3 * min k 12 ≤ 3 * min r.2.2 12 + (if 12 ≤ k then 3 else if r.2.2 ≤ 12 then 0 else 6 * lv + 3)
theorem zil (t:Bool):tyOf t ≠ 0:=by cases t <;> decide
theorem zy0 {op:Int} {a:Ex} {t:Bool} {ka:Int} (ha:zbf a = ka) (h0:ka ≠ 0) (hk:zbQ op [ka] = tyOf t):zbf (.mk op 0 0 [a]) = tyOf t:=by
 simp only [zbf,za0,ha,if_neg h0,Option.map_some]
 exact hk
theorem zyZ {op:Int} {a b:Ex} {t:Bool} {ka:Int} (ha:zbf a = ka) (hb:zbf b = ka) (h0:ka ≠ 0) (hk:zbQ op [ka,ka] = tyOf t):zbf (.mk op 0 0 [a,b]) = tyOf t:=by
 simp only [zbf,za0,ha,hb,if_neg h0,Option.map_some]
 exact hk
theorem zyY {a b c:Ex} {t:Bool} (ha:zbf a = 2) (hb:zbf b = tyOf t) (hc:zbf c = tyOf t):zbf (.mk 13 0 0 [a,b,c]) = tyOf t:=by
 simp only [zbf,za0,ha,hb,hc,if_neg (zil t),Option.map_some]
 cases t <;> rfl
theorem zdU {vars b:Int} (hv:0 ≤ vars) (hb:bytG b):wfE vars (zfZ vars b) ∧ zbf (zfZ vars b) = 1 ∧ edep (zfZ vars b) = 1 ∧ esz (zfZ vars b) = 1:=by
 have:=hb.h0
 have:=hb.h1
 unfold zfZ
 split
 ·rename_i h
  have h1:=Int.emod_nonneg (b / 8) (show vars ≠ 0 by omega)
  have h2:=Int.emod_lt_of_pos (b / 8) h.2
  refine ⟨⟨?_,trivial⟩,rfl,rfl,rfl⟩
  show zaS 1 0 (b / 8 % vars) 0 vars = 0
  unfold zaS
  rw [if_neg (by decide),if_neg (by decide),if_neg (by simp),if_neg (by omega)]
 ·refine ⟨⟨?_,trivial⟩,rfl,rfl,rfl⟩
  show zaS 0 (b / 8 - 8) 0 0 vars = 0
  unfold zaS
  rw [if_neg (by decide),if_neg (by decide),if_neg (by simp),if_neg (by omega)]
theorem zkL {vars:Int} (t:Bool):wfE vars (zfG t) ∧ zbf (zfG t) = 2 ∧ edep (zfG t) = 2 ∧ esz (zfG t) = 3:=by
 cases t
 ·exact ⟨⟨rfl,⟨rfl,trivial⟩,⟨rfl,trivial⟩,trivial⟩,rfl,rfl,rfl⟩
 ·exact ⟨⟨rfl,⟨rfl,trivial⟩,⟨rfl,trivial⟩,trivial⟩,rfl,rfl,rfl⟩
theorem zj6 {vars:Int} {lv:Nat} {bs:List Int} {k:Nat} (h:12 ≤ k):zak vars lv true bs k = (zfZ vars (b0 bs),bs.tail,k + 1):=by
 cases lv with
 | zero => simp only [zak]
 | succ lv => simp only [zak]; rw [if_pos (by omega)]
theorem zvc {vars:Int} (hv:0 ≤ vars):∀ (lv:Nat) (t:Bool) (bs:List Int) (k:Nat),zb2 bs → grown vars lv t k (zak vars lv t bs k):=by
 intro lv
 induction lv with
 | zero =>
  intro t bs k hb
  have hby:bytG (b0 bs):=⟨(zfb hb).1,(zfb hb).2⟩
  cases t with
  | true =>
   obtain ⟨a,b,c,d⟩:=zdU hv hby
   simp only [zak]
   exact ⟨a,b,by simp only; omega,by simp only; omega,by simp only; split <;> (try split) <;> omega⟩
  | false =>
   obtain ⟨a,b,c,d⟩:=zkL (vars:=vars) (decide (b0 bs % 2 = 0))
   simp only [zak]
   exact ⟨a,b,by simp only; omega,by simp only; omega,by simp only; split <;> (try split) <;> omega⟩
 | succ lv ih =>
  intro t bs k hb
  have hby:bytG (b0 bs):=⟨(zfb hb).1,(zfb hb).2⟩
  have hbt:=zcc hb
  have ok:=ziS vars lv
  have q3:b0 bs / 8 % 3 = 0 ∨ b0 bs / 8 % 3 = 1 ∨ b0 bs / 8 % 3 = 2:=by omega
  have q4:b0 bs / 8 % 4 = 0 ∨ b0 bs / 8 % 4 = 1 ∨ b0 bs / 8 % 4 = 2 ∨ b0 bs / 8 % 4 = 3:=by omega
  have q2:b0 bs / 8 % 2 = 0 ∨ b0 bs / 8 % 2 = 1:=by omega
  have one:∀ (t2:Bool) (op:Int),op = 5 ∨ op = 10 → k < 12 → zbQ op [tyOf t2] = tyOf t → grown vars (lv + 1) t k (.mk op 0 0 [(zak vars lv t2 bs.tail (k + 1)).1],(zak vars lv t2 bs.tail (k + 1)).2):=by
   intro t2 op hop hk hkind
   have h1:=ih t2 bs.tail (k + 1) hbt
   have hsz:=h1.sz
   have hcn:=h1.cnt
   have hdp:=h1.dep
   refine ⟨⟨fh1 hop,h1.wf,trivial⟩,zy0 h1.kind (zil _) hkind,?_,by simp only; omega,?_⟩
   ·simp only [edep,zlv]; omega
   ·simp only [esz,eszs]
    split at hsz <;> (try split at hsz) <;> split <;> (try split) <;> omega
  have two:∀ (t2:Bool) (op:Int),(op = 2 ∨ op = 3 ∨ op = 4 ∨ op = 6 ∨ op = 7 ∨ op = 8 ∨ op = 9 ∨ op = 11 ∨ op = 12) → (12 ≤ k → t2 = true) → zbQ op [tyOf t2,tyOf t2] = tyOf t → grown vars (lv + 1) t k (.mk op 0 0 [(zak vars lv t2 bs.tail (k + 1)).1,(zak vars lv t2 (zak vars lv t2 bs.tail (k + 1)).2.1 (zak vars lv t2 bs.tail (k + 1)).2.2).1],(zak vars lv t2 (zak vars lv t2 bs.tail (k + 1)).2.1 (zak vars lv t2 bs.tail (k + 1)).2.2).2):=by
   intro t2 op hop hk hkind
   have h1:=ih t2 bs.tail (k + 1) hbt
   have o1:=ok t2 bs.tail (k + 1) hbt
   have l1:12 ≤ k → esz (zak vars lv t2 bs.tail (k + 1)).1 = 1:=fun h => by
    rw [hk h,zj6 (by omega)]
    exact (zdU hv ⟨(zfb hbt).1,(zfb hbt).2⟩).2.2.2
   generalize zak vars lv t2 bs.tail (k + 1) = A at *
   have hcn:=h1.cnt
   have h2:=ih t2 A.2.1 A.2.2 o1.b
   have l2:12 ≤ k → esz (zak vars lv t2 A.2.1 A.2.2).1 = 1:=fun h => by
    rw [hk h,zj6 (by omega)]
    exact (zdU hv ⟨(zfb o1.b).1,(zfb o1.b).2⟩).2.2.2
   generalize zak vars lv t2 A.2.1 A.2.2 = B at *
   have hsz:=h1.sz
   have hdp:=h1.dep
   have hsz2:=h2.sz
   have hcn2:=h2.cnt
   have hdp2:=h2.dep
   refine ⟨⟨fh2 hop,h1.wf,h2.wf,trivial⟩,zyZ h1.kind h2.kind (zil _) hkind,?_,by simp only; omega,?_⟩
   ·simp only [edep,zlv]; omega
   ·simp only [esz,eszs]
    by_cases hk12:12 ≤ k
    ·rw [l1 hk12,l2 hk12,if_pos hk12]
     omega
    ·rw [if_neg hk12]
     split at hsz <;> (try split at hsz) <;> split at hsz2 <;> (try split at hsz2) <;> split <;> omega
  have three:∀ (t2:Bool),t2 = t → k < 12 → grown vars (lv + 1) t k (.mk 13 0 0 [(zak vars lv false bs.tail (k + 1)).1,(zak vars lv t2 (zak vars lv false bs.tail (k + 1)).2.1 (zak vars lv false bs.tail (k + 1)).2.2).1,
    (zak vars lv t2 (zak vars lv t2 (zak vars lv false bs.tail (k + 1)).2.1 (zak vars lv false bs.tail (k + 1)).2.2).2.1 (zak vars lv t2 (zak vars lv false bs.tail (k + 1)).2.1 (zak vars lv false bs.tail (k + 1)).2.2).2.2).1],
    (zak vars lv t2 (zak vars lv t2 (zak vars lv false bs.tail (k + 1)).2.1 (zak vars lv false bs.tail (k + 1)).2.2).2.1 (zak vars lv t2 (zak vars lv false bs.tail (k + 1)).2.1 (zak vars lv false bs.tail (k + 1)).2.2).2.2).2):=by
   intro t2 e hk12
   subst e
   have h1:=ih false bs.tail (k + 1) hbt
   have o1:=ok false bs.tail (k + 1) hbt
   generalize zak vars lv false bs.tail (k + 1) = A at *
   have h2:=ih t2 A.2.1 A.2.2 o1.b
   have o2:=ok t2 A.2.1 A.2.2 o1.b
   generalize zak vars lv t2 A.2.1 A.2.2 = B at *
   have h3:=ih t2 B.2.1 B.2.2 o2.b
   generalize zak vars lv t2 B.2.1 B.2.2 = C at *
   have hsz:=h1.sz
   have hcn:=h1.cnt
   have hdp:=h1.dep
   have hsz2:=h2.sz
   have hcn2:=h2.cnt
   have hdp2:=h2.dep
   have hsz3:=h3.sz
   have hcn3:=h3.cnt
   have hdp3:=h3.dep
   refine ⟨⟨fh3,h1.wf,h2.wf,h3.wf,trivial⟩,zyY h1.kind h2.kind h3.kind,?_,by simp only; omega,?_⟩
   ·simp only [edep,zlv]; omega
   ·simp only [esz,eszs]
    rw [if_neg (by omega)]
    split at hsz <;> (try split at hsz) <;> split at hsz2 <;> (try split at hsz2) <;> split at hsz3 <;> (try split at hsz3) <;> split <;> omega
  cases t with
  | true =>
   simp only [zak]
   split
   ·rename_i h
    obtain ⟨a,b,c,d⟩:=zdU hv hby
    exact ⟨a,b,by simp only; omega,by simp only; omega,by simp only; split <;> (try split) <;> omega⟩
   ·rename_i h
    split
    ·exact one true 5 (.inl rfl) (by omega) rfl
    split
    ·exact three true rfl (by omega)
    ·refine two true _ (by omega) (fun _ => rfl) ?_
     rcases q3 with q | q | q <;> rw [q] <;> rfl
  | false =>
   simp only [zak]
   split
   ·refine two true _ (by omega) (fun _ => rfl) ?_
    rcases q4 with q | q | q | q <;> rw [q] <;> rfl
   ·rename_i h
    split
    ·exact one false 10 (.inr rfl) (by omega) rfl
    split
    ·exact three false rfl (by omega)
    ·refine two false _ (by omega) (by omega) ?_
     rcases q2 with q | q <;> rw [q] <;> rfl
theorem zfr {vars:Int} (hv:0 ≤ vars) (hv2:vars ≤ 16) (t:Bool) {bs:List Int} (hb:zb2 bs):zbl (zgY vars t bs) vars (tyOf t) = 0 ∧ exOk (zgY vars t bs):=by
 have h:=zvc hv 4 t (bs.take 60) 0 fun b hm => hb b (List.mem_of_mem_take hm)
 have hs:=h.sz
 have hd:=h.dep
 unfold zgY
 refine ⟨zmZ hv hv2 h.wf ?_ (by omega) h.kind (zil t),zsE _ _ h.wf⟩
 rw [if_neg (by omega)] at hs
 split at hs <;> omega
theorem zfT {n:Int}:∀ {l:List Int} {p:Option Int},l.Pairwise (· < ·) → (∀ x ∈ l,0 ≤ x ∧ x < n) → (∀ y,p = some y → ∀ x ∈ l,y < x) → zaw n l p = 0
 | [],_,_,_,_ => rfl
 | x :: r,p,hs,hr,hp => by
  simp only [zaw]
  have h1:=hr x (by simp)
  rw [if_neg (by omega),if_neg]
  ·rw [List.pairwise_cons] at hs
   refine zfT hs.2 (fun y hy => hr y (by simp [hy])) (fun y e z hz => ?_)
   simp only [Option.some.injEq] at e
   subst e
   exact hs.1 z hz
  ·cases p with
   | none => simp
   | some y =>
    have:=hp y rfl x (by simp)
    simp only [Option.any_some,decide_eq_true_eq]
    omega
theorem zuQ (marks:Int) (L:Nat):zaw (L:Int) (mrks marks L) none = 0:=by
 refine zfT ?_ (fun x hx => ?_) (by simp)
 ·unfold mrks
  rw [List.pairwise_map]
  exact (List.Pairwise.filter _ List.pairwise_lt_range).imp fun h => by omega
 ·unfold mrks at hx
  simp only [List.mem_map,List.mem_filter,List.mem_range] at hx
  obtain ⟨i,⟨h1,_⟩,rfl⟩:=hx
  omega
structure vrOk (v:Vr):Prop where
 lo:-4 ≤ v.low
 hi:v.high ≤ 7
 w:v.low ≤ v.high ∧ v.high ≤ v.low + 3
 ini:v.low ≤ v.init ∧ v.init ≤ v.high
 nm:v.name.size = 2
theorem zwQ (i:Nat) {p:Int × Int} (hp:zfM p):vrOk (rngV i p):=by
 have h1:=Int.tmod_lt_of_pos p.1 (show (0:Int) < 5 by decide)
 have h2:=Int.lt_tmod_of_pos p.1 (show (0:Int) < 5 by decide)
 have h3:=Int.emod_nonneg (p.2 % 256 / 4) (show p.2 % 256 % 4 + 1 ≠ 0 by omega)
 have h4:=Int.emod_lt_of_pos (p.2 % 256 / 4) (show 0 < p.2 % 256 % 4 + 1 by omega)
 refine ⟨?_,?_,?_,?_,zhM i⟩ <;> simp only [rngV] <;> omega
theorem zm5 {l:List (Int × Int)} (h:∀ p ∈ l,zfM p):∀ v ∈ zdm l,vrOk v:=by
 intro v hv
 simp only [zdm,List.mem_map,List.mem_range] at hv
 obtain ⟨i,hi,rfl⟩:=hv
 have:l.getD i (0,0) = l[i]'(by omega):=by simp [show i < l.length by omega]
 rw [this]
 exact zwQ i (h _ (List.getElem_mem _))
theorem zfB {ds:List Vr} {v:Vr} (hn:zaT v.name = true) (hd:ds.any (fun x => x.name.toList == v.name.toList) = false) (h:vrOk v):checkVr ds v = none:=by
 have:=h.lo
 have:=h.hi
 have:=h.w
 have:=h.ini
 unfold checkVr
 rw [if_neg (by rw [hn]; simp),if_neg (by rw [hd]; simp),if_neg,if_neg (by omega),if_neg (by omega)]
 simp only [checkVr.large,Bool.or_eq_true,decide_eq_true_eq]
 omega
theorem zum {l:List (Int × Int)} (hl:l.length ≤ 2) (h:∀ p ∈ l,zfM p):zbw (zdm l) = 0:=by
 have hlen:(zdm l).length ≤ 2:=by rw [zgt]; omega
 unfold zbw
 rw [if_neg (by omega)]
 have hok:=zm5 h
 have n0:zaT (zjK 0) = true:=by kernel_rfl
 have n1:zaT (zjK 1) = true:=by kernel_rfl
 have n2:((zjK 0).toList == (zjK 1).toList) = false:=by kernel_rfl
 match l,hl with
 | [],_ => rfl
 | [a],_ =>
  have e:zdm [a] = [rngV 0 a]:=rfl
  rw [e] at hok ⊢
  simp only [zbe]
  rw [zfB n0 (by simp) (hok _ (by simp))]
 | [a,b],_ =>
  have e:zdm [a,b] = [rngV 0 a,rngV 1 b]:=rfl
  rw [e] at hok ⊢
  simp only [zbe]
  rw [zfB n0 (by simp) (hok _ (by simp))]
  simp only
  rw [zfB n1 ?_ (hok _ (by simp))]
  simp only [List.take_succ_cons,List.take_zero,List.any_cons,List.any_nil,Bool.or_false]
  exact n2
def leMv (x y:Mv):Prop:=¬ (y.frm < x.frm ∨ (y.frm = x.frm ∧ y.ev < x.ev))
theorem zhS {x y z:Mv} (h:leMv x y) (h':leMv y z):leMv x z:=by unfold leMv at *; omega
theorem znz {x y:Mv}:gtMv x y = true ↔ ¬ leMv x y:=by
 unfold gtMv leMv
 rw [decide_eq_true_eq]
 omega
theorem zhK {l:List Mv} {y:Mv} (hs:l.Pairwise leMv):∀ n,n ≤ l.length → (∀ x ∈ l.drop n,leMv y x) → (∀ x ∈ l.take (posR l y n),leMv x y) ∧ ∀ x ∈ l.drop (posR l y n),leMv y x
 | 0,_,h => ⟨by simp [posR],h⟩
 | n + 1,hn,h => by
  simp only [posR]
  rw [List.getElem?_eq_getElem (by omega)]
  simp only
  cases hg:gtMv l[n] y with
  | true =>
   rw [cond_true]
   refine zhK hs n (by omega) fun x hx => ?_
   rw [List.drop_eq_getElem_cons (by omega)] at hx
   rcases List.mem_cons.1 hx with rfl | hx
   ·have:=znz.1 hg
    unfold leMv at *
    omega
   ·exact h x hx
  | false =>
   rw [cond_false]
   refine ⟨fun x hx => ?_,h⟩
   have hle:leMv l[n] y:=by
    apply Classical.byContradiction
    intro hc
    rw [znz.2 hc] at hg; cases hg
   rw [List.take_add_one,List.getElem?_eq_getElem (by omega)] at hx
   simp only [List.mem_append,Option.toList,List.mem_singleton] at hx
   rcases hx with hx | rfl
   ·obtain ⟨j,hj,rfl⟩:=List.mem_take_iff_getElem.1 hx
    have hjn:j < n:=by omega
    exact zhS (List.pairwise_iff_getElem.1 hs j n (by omega) (by omega) hjn) hle
   ·exact hle
theorem zpU {l:List Mv} {y:Mv} (hs:l.Pairwise leMv):(ziQ l y).Pairwise leMv:=by
 have h:=zhK (y:=y) hs l.length (Nat.le_refl _) (by simp)
 unfold ziQ
 rw [List.pairwise_append]
 refine ⟨hs.sublist (List.take_sublist _ _),?_,?_⟩
 ·rw [List.pairwise_cons]
  exact ⟨h.2,hs.sublist (List.drop_sublist _ _)⟩
 ·intro a ha b hb
  rcases List.mem_cons.1 hb with rfl | hb
  ·exact h.1 a ha
  ·exact zhS (h.1 a ha) (h.2 b hb)
theorem zxt {l:List Mv} {y x:Mv}:x ∈ ziQ l y → x ∈ l ∨ x = y:=by
 unfold ziQ
 intro h
 simp only [List.mem_append,List.mem_cons] at h
 rcases h with h | rfl | h
 ·exact .inl (List.mem_of_mem_take h)
 ·exact .inr rfl
 ·exact .inl (List.mem_of_mem_drop h)
theorem znh {P:Mv → Prop} {locs n:Int} {l:List Lin} (h:∀ x ∈ l,P (mvOf locs n x)):∀ i,i ≤ l.length → (mvsL locs n l i).Pairwise leMv ∧ ∀ y ∈ mvsL locs n l i,P y
 | 0,_ => by simp [mvsL]
 | i + 1,hi => by
  obtain ⟨h1,h2⟩:=znh h i (by omega)
  rw [zgH (by omega)]
  refine ⟨zpU h1,fun y hy => ?_⟩
  rcases zxt hy with hy | rfl
  ·exact h2 y hy
  ·exact h _ (List.getElem_mem _)
structure mvGood (L n:Int) (x:Mv):Prop where
 frm:0 ≤ x.frm ∧ x.frm < L
 to:0 ≤ x.to ∧ x.to < L
 ev:x.ev = 0 ∨ x.ev = 1 ∨ x.ev = 2
 g:zbl x.g n 2 = 0
 us:x.us = [] ∨ ∃ u,x.us = [u] ∧ 0 ≤ u.v ∧ u.v < n ∧ zbl u.x n 1 = 0 ∧ exOk u.x
 gok:exOk x.g
theorem zpf {n:Int} (h:0 ≤ n) (h2:n ≤ 16):zbl trueE n 2 = 0:=zmZ h h2 ⟨rfl,⟨rfl,trivial⟩,⟨rfl,trivial⟩,trivial⟩ (by decide) (by decide) rfl (by decide)
theorem zwr:exOk trueE:=⟨by simp [zao],⟨Nat.zero_le _,trivial⟩,⟨Nat.zero_le _,trivial⟩,trivial⟩
theorem zrT {L n:Int} (hL:0 < L) (hn:0 ≤ n) (hn2:n ≤ 16) {x:Lin} (hx:linOk x):mvGood L n (mvOf L n x):=by
 obtain ⟨h0,h1,h2,hg,hgl,hu,hul⟩:=hx
 have hb0:=zfb hu
 refine ⟨⟨Int.emod_nonneg _ (by omega),Int.emod_lt_of_pos _ hL⟩,⟨Int.emod_nonneg _ (by omega),Int.emod_lt_of_pos _ hL⟩,?_,?_,?_,?_⟩
 ·show x.a1 % 3 = 0 ∨ x.a1 % 3 = 1 ∨ x.a1 % 3 = 2
  omega
 ·show zbl (zfO n x.g) n 2 = 0
  unfold zfO
  split
  ·exact (zfr hn hn2 false fun b hb => hg b (List.mem_of_mem_take hb)).1
  ·exact zpf hn hn2
 ·show zjh n x.u = [] ∨ _
  unfold zjh
  split
  ·rename_i h
   have ht:=zfr hn hn2 true (bs:=(x.u.take 12).drop 1) fun b hb => hu b (List.mem_of_mem_take (List.mem_of_mem_drop hb))
   have h2:0 < n:=h.2
   exact .inr ⟨⟨b0 x.u % n,zgY n true ((x.u.take 12).drop 1)⟩,(by show zjh n x.u = _; unfold zjh; rw [if_pos h]),Int.emod_nonneg _ (by omega),Int.emod_lt_of_pos _ h2,ht.1,ht.2⟩
  ·exact .inl rfl
 ·show exOk (zfO n x.g)
  unfold zfO
  split
  ·exact (zfr hn hn2 false fun b hb => hg b (List.mem_of_mem_take hb)).2
  ·exact zwr
structure made (m:Ext):Prop where
 al:m.alpha = [0,1,2]
 lo:1 ≤ m.locs ∧ m.locs ≤ 4
 ini:m.init = 0
 vl:m.vars.length ≤ 2
 v:∀ v ∈ m.vars,vrOk v
 ml:m.moves.length ≤ 8
 mv:∀ x ∈ m.moves,mvGood m.locs m.vars.length x
 sorted:m.moves.Pairwise leMv
 ve:zbw m.vars = 0
 ma:zaw m.locs m.marked none = 0
 mal:m.marked.length ≤ 4
theorem zjM {k:Sk} (hk:skOk k):made (ziL k):=by
 have hl:=hk.locs
 have hL:1 ≤ zcY k ∧ zcY k ≤ 4:=by unfold zcY; omega
 have hp:∀ p ∈ k.rngs.take 2,zfM p:=fun p h => hk.r p (List.mem_of_mem_take h)
 have hv2:(zdm (k.rngs.take 2)).length ≤ 2:=by rw [zgt,List.length_take]; omega
 have hall:=znh (P:=mvGood (zcY k) (zdm (k.rngs.take 2)).length) (locs:=zcY k) (n:=(zdm (k.rngs.take 2)).length) (l:=k.lines) (fun x hx => zrT (by omega) (by omega) (by omega) (hk.l x hx)) (min k.lines.length 8) (by omega)
 have hml:=zni k.marks (zcY k)
 refine ⟨rfl,⟨?_,?_⟩,rfl,hv2,zm5 hp,?_,hall.2,hall.1,zum (by rw [List.length_take]; omega) hp,zuQ _ _,?_⟩
 ·show (1:Int) ≤ (zcY k:Int); omega
 ·show (zcY k:Int) ≤ 4; omega
 ·show (mvsL _ _ _ _).length ≤ 8
  rw [ziH (by omega)]; omega
 ·show (mrks _ _).length ≤ 4; omega
theorem zxb {m:Ext} (h:made m):extOk m:=by
 refine ⟨by rw [h.al]; simp [zao],?_,?_,fun v hv => ?_,?_,fun x hx => ?_⟩
 ·have:=h.mal; simp only [zao]; omega
 ·have:=h.vl; simp only [zao]; omega
 ·have:=(h.v v hv).nm; simp only [zao]; omega
 ·have:=h.ml; simp only [zao]; omega
 ·have hg:=h.mv x hx
  refine ⟨hg.gok,?_,fun u hu => ?_⟩
  ·rcases hg.us with e | ⟨u,e,_⟩ <;> rw [e] <;> simp [zao]
  ·rcases hg.us with e | ⟨u',e,h1⟩
   ·rw [e] at hu; simp at hu
   ·rw [e] at hu
    simp only [List.mem_singleton] at hu
    subst hu
    exact h1.2.2.2
theorem zuP {m:Ext} (h:made m) {p:Option Mv} {x:Mv} (hx:mvGood m.locs m.vars.length x) (hp:∀ y,p = some y → leMv y x):zhs m p x = 0:=by
 have h1:=hx.frm
 have h2:=hx.to
 have h3:=hx.ev
 unfold zhs
 rw [if_neg (by omega),if_neg,if_neg,hx.g]
 ·simp only [ne_eq,not_true_eq_false,if_false]
  rcases hx.us with e | ⟨u,e,h4,h5,h6,_⟩
  ·rw [e]; rfl
  ·rw [e]
   simp only [zcv]
   rw [if_neg (by omega),if_neg (by simp),h6]
   simp
 ·cases p with
  | none => simp
  | some y =>
   have:=hp y rfl
   unfold leMv at this
   simpa using this
 ·rw [h.al]
  simp only [List.mem_cons,List.mem_nil_iff,or_false]
  exact not_not_intro h3
theorem zjL {m:Ext} (h:made m):∀ {l:List Mv} {p:Option Mv},(∀ x ∈ l,mvGood m.locs m.vars.length x) → l.Pairwise leMv → (∀ y,p = some y → ∀ x ∈ l,leMv y x) → zeQ m p l = 0
 | [],_,_,_,_ => rfl
 | x :: r,p,hx,hs,hp => by
  rw [List.pairwise_cons] at hs
  simp only [zeQ]
  rw [zuP h (hx x (by simp)) fun y e => hp y e x (by simp)]
  simp only [ne_eq,not_true_eq_false,if_false]
  refine zjL h (fun y hy => hx y (by simp [hy])) hs.2 fun y e z hz => ?_
  simp only [Option.some.injEq] at e
  subst e
  exact hs.1 z hz
theorem zuU {m:Ext} (h:made m):chk m = 0:=by
 have h1:=h.lo
 have h2:=h.ml
 unfold chk
 rw [h.al,h.ini,h.ma,h.ve,zjL h h.mv h.sorted (by simp)]
 rw [if_neg (by decide),if_neg (by omega),if_neg (by decide),if_neg (by decide),if_neg (by omega)]
end Go.AI
namespace Go.AI
open Go.Proofs
theorem zdP (c:UInt8) (i:Nat) (h:i ≤ 1000):(zbz c i).size ≤ zao:=by
 have:=zpK c i h
 simp only [zao]; omega
theorem zdR (k:Sk22):(zcq k).tpls = mkT k:=by unfold zcq; split <;> rfl
theorem zeq (k:Sk22):(zcq k).comps = (mkI k).1:=by unfold zcq; split <;> rfl
theorem zhO (k:Sk22):(zcq k).reqs = (mkI k).2:=by unfold zcq; split <;> rfl
theorem zjN (k:Sk22):(zcq k).evs = evs4:=by unfold zcq; split <;> rfl
theorem zpN (k:Sk22):(zcq k).name = ⟨#[109]⟩:=by unfold zcq; split <;> rfl
theorem znG (T:List Tpl) (C:List Ins) (acc:List NLc) (w:Whr):(excA T C acc w).length ≤ acc.length + 1:=by
 unfold excA
 by_cases h:(match acc with | [] => false | a :: _ => sB a.1 (C.getD (w.1 % (C.length:Int)).toNat zie).name) = true
 ·rcases acc with _ | ⟨a,r⟩
  ·cases h
  ·have h:sB a.1 (C.getD (w.1 % (C.length:Int)).toNat zie).name = true:=h
   simp only [h,if_true]
   omega
 ·rcases acc with _ | ⟨a,r⟩
  ·simp
  ·have h:¬ sB a.1 (C.getD (w.1 % (C.length:Int)).toNat zie).name = true:=h
   simp only [h,if_false,Bool.false_eq_true,List.length_append,List.length_singleton]
   omega
theorem zpO {k:Sk22}:(zcq k).excs.length ≤ 2 ∧ ∀ x ∈ (zcq k).excs,x.name.size ≤ zao ∧ x.locals.length ≤ 2:=by
 unfold zcq
 split
 ·simp
 ·refine ⟨by simp only [zey,List.length_map,List.length_range]; omega,fun x hx => ?_⟩
  obtain ⟨i,hi,rfl⟩:=List.mem_map.1 hx
  have hi:=List.mem_range.1 hi
  refine ⟨zdP 120 i (by omega),?_⟩
  have h1:=znG (mkT k) (mkI k).1 (excA (mkT k) (mkI k).1 [] (k.excs.getD i zWhr).1) (k.excs.getD i zWhr).2
  have h2:=znG (mkT k) (mkI k).1 [] (k.excs.getD i zWhr).1
  unfold zvl
  simp only
  simp only [List.length_nil] at h2
  omega
theorem zrV (k:Sk22):(mkI k).1.length ≤ 3 ∧ (mkI k).2.length ≤ 2:=zf6 _ _ _
theorem zpP {k:Sk22}:(zcq k).cons.length ≤ 1 ∧ ∀ x ∈ (zcq k).cons,x.name.size ≤ zao ∧ x.terms.length ≤ 3:=by
 have hl:=(zrV k).1
 unfold zcq
 split
 ·simp
 ·simp only
  split
  ·refine ⟨by simp,fun x hx => ?_⟩
   rw [List.mem_singleton.1 hx]
   refine ⟨by show (1:Nat) ≤ zao; decide,?_⟩
   show (zcE _).length ≤ 3
   rw [zdI]
   exact hl
  ·simp
theorem zvX (k:Sk22):∀ x ∈ (mkI k).1 ++ (mkI k).2,insOk x:=by
 refine zfq (P:=insOk) _ _ _ fun i hi => ?_
 have:=zgU k
 refine ⟨zdP 105 i (by omega),?_⟩
 show (ordS _ 3).1.length ≤ 1000000
 rw [zgB]
 decide
theorem zvW {k:Sk22} (hk:sk22Ok k):∀ t ∈ mkT k,tplOk t ∧ t.mach.moves.length ≤ 19:=by
 intro t h
 obtain ⟨j,h1,h2,rfl⟩:=zk3 h
 have hs:=hk.t _ (zf7 (d:=zSk) h2)
 have hm:=zjM hs
 have hl:zcY (k.tpls.getD j zSk) ≤ 4:=by have:=hs.locs; unfold zcY; omega
 have ht3:=ziI k
 have hml:=hm.ml
 refine ⟨⟨zdP 116 j (by omega),?_,fun s hsm => ?_,by show (3:Nat) ≤ 1000000; decide,fun s hsm => ?_,zxb hm⟩,by show (ziL _).moves.length ≤ 19; omega⟩
 ·show ((List.range _).map _).length ≤ 1000000
  simp only [List.length_map,List.length_range]
  omega
 ·obtain ⟨i,hi,rfl⟩:=List.mem_map.1 hsm
  have hi:=List.mem_range.1 hi
  exact zdP 115 i (by omega)
 ·have hsm:s ∈ abc3:=hsm
  unfold abc3 at hsm
  simp only [List.mem_cons,List.mem_nil_iff,or_false] at hsm
  rcases hsm with rfl | rfl | rfl <;> (show (1:Nat) ≤ zao; decide)
theorem zuS {k:Sk22} (hk:sk22Ok k):mdlOk (zcq k):=by
 have ht3:=ziI k
 have hI:=zrV k
 have hex:=zpO (k:=k)
 have hcn:=zpP (k:=k)
 refine { ev:=?_,tp:=?_,co:=?_,rq:=?_,ex:=?_,cn:=?_,nm:=?_,evn:=?_,tpk:=?_,cok:=?_,rqk:=?_,exk:=?_,cnk:=?_ }
 ·rw [zjN]; decide
 ·rw [zdR]; omega
 ·rw [zeq]; omega
 ·rw [zhO]; omega
 ·omega
 ·omega
 ·rw [zpN]; show (1:Nat) ≤ zao; decide
 ·rw [zjN]
  intro x hx
  unfold evs4 at hx
  simp only [List.mem_cons,List.mem_nil_iff,or_false] at hx
  rcases hx with rfl | rfl | rfl | rfl <;> (show (2:Nat) ≤ zao; decide)
 ·rw [zdR]; exact fun t h => (zvW hk t h).1
 ·rw [zeq]; exact fun x h => zvX k x (List.mem_append_left _ h)
 ·rw [zhO]; exact fun x h => zvX k x (List.mem_append_right _ h)
 ·exact fun x h => ⟨(hex.2 x h).1,by have:=(hex.2 x h).2; omega⟩
 ·exact fun x h => ⟨(hcn.2 x h).1,by have:=(hcn.2 x h).2; omega⟩
theorem zuT {k:Sk22} (hk:sk22Ok k):∀ t ∈ (zcq k).tpls,t.mach.moves.length ≤ 19:=by
 rw [zdR]
 exact fun t h => (zvW hk t h).2
end Go.AI
namespace Go.AI
open Go.Proofs
set_option maxRecDepth 20000
end Go.AI
namespace Go.AI
end Go.AI
namespace Go.AI
open Go.Proofs
end Go.AI
namespace Go.AI
open Go.Proofs
set_option maxRecDepth 20000
abbrev obs (l:List Bool):Ob:=.arr 4 1 l.length (l.map fun b => [bI b]) true
end Go.AI
namespace Go.AI
open Go.Proofs
inductive FrzC (nm:Nat) (d:I):List D → List D → Prop
 | nil:FrzC nm d [] []
 | i {x:I} {l m:List D}:FrzC nm d l m → FrzC nm d (.i x :: l) (.i x :: m)
 | f {k:FuncId} {l m:List D}:FrzC nm d l m → FrzC nm d (.fn (.func k) [] [] :: l) (.fn (.func k) [] [] :: m)
 | osl {l m:List D}:FrzC nm d l m → FrzC nm d (.osl 0 nm :: l) (.i d :: m)
 | agg {a b l m:List D}:FrzC nm d a b → FrzC nm d l m → FrzC nm d (.agg a :: l) (.agg b :: m)
end Go.AI
namespace Go.AI
open Go.Proofs
set_option maxRecDepth 20000
instance staDec:DecidableEq Sta:=fun a b => decidable_of_iff (a.loc = b.loc ∧ a.vals = b.vals) ⟨fun ⟨h1,h2⟩ => by cases a; cases b; cases h1; cases h2; rfl,fun h => by subst h; exact ⟨rfl,rfl⟩⟩
end Go.AI
