/- The layer of abstract runs, part 24. -/
import Derived.Test.YtnojpbbaohoadaaGreatDoorElkW
import Derived.Laws.Strings
import Derived.KernelRfl
set_option linter.unusedSimpArgs false
set_option linter.unusedVariables false
set_option linter.all false
set_option maxHeartbeats 4000000
namespace Go.AI
open Go.Proofs
set_option maxRecDepth 20000
structure Lin where
 a0:Int
 a1:Int
 a2:Int
 g:List Int
 u:List Int
abbrev linI (x:Lin):List I:=[.v (.int .u8 x.a0),.v (.int .u8 x.a1),.v (.int .u8 x.a2),.sl 1 x.g.length (x.g.map u8I),.sl 1 x.u.length (x.u.map u8I)]
structure Sk where
 locs:Int
 marks:Int
 rngs:List (Int × Int)
 lines:List Lin
abbrev zgO (l:List Lin):D:=.i (.sl 5 l.length (l.map linI))
abbrev u8Dd (b:Int):D:=.i (.v (.int .u8 b))
abbrev skC (k:Sk):List D:=[u8Dd k.locs,u8Dd k.marks,r8s k.rngs,zgO k.lines]
abbrev skD (k:Sk):D:=.agg (skC k)
structure linOk (x:Lin):Prop where
 a0:0 ≤ x.a0 ∧ x.a0 ≤ 255
 a1:0 ≤ x.a1 ∧ x.a1 ≤ 255
 a2:0 ≤ x.a2 ∧ x.a2 ≤ 255
 g:zb2 x.g
 gl:x.g.length ≤ zao
 u:zb2 x.u
 ul:x.u.length ≤ zao
structure skOk (k:Sk):Prop where
 locs:0 ≤ k.locs ∧ k.locs ≤ 255
 marks:0 ≤ k.marks ∧ k.marks ≤ 255
 rl:k.rngs.length ≤ zao
 r:∀ p ∈ k.rngs,zfM p
 ll:k.lines.length ≤ zao
 l:∀ x ∈ k.lines,linOk x
def mrkG (marks:Int) (i:Nat):Bool:=bits .and .u8 (marks / 2 ^ (i:Int).toNat) 1 == 1
def mrks (marks:Int) (n:Nat):List Int:=((List.range n).filter (mrkG marks)).map fun (i:Nat) => (i:Int)
def gtMv (x y:Mv):Bool:=decide (x.frm > y.frm ∨ (x.frm = y.frm ∧ x.ev > y.ev))
def posR (l:List Mv) (y:Mv):Nat → Nat
 | 0 => 0
 | n + 1 => match l[n]? with
  | some x => bif gtMv x y then posR l y n else n + 1
  | none => 0
def ziQ (l:List Mv) (y:Mv):List Mv:=l.take (posR l y l.length) ++ y :: l.drop (posR l y l.length)
def zfO (n:Int) (g:List Int):Ex:=if g.length > 0 then zgY n false (g.take 12) else trueE
def zjh (n:Int) (u:List Int):List Upd:=if u.length > 0 ∧ n > 0 then [⟨b0 u % n,zgY n true ((u.take 12).drop 1)⟩] else []
def mvOf (locs n:Int) (x:Lin):Mv:=⟨x.a0 % locs,x.a1 % 3,x.a2 % locs,zfO n x.g,zjh n x.u⟩
def zcY (k:Sk):Nat:=1 + (k.locs % 4).toNat
def mvsL (locs n:Int) (l:List Lin) (i:Nat):List Mv:=(l.take i).foldl (fun acc x => ziQ acc (mvOf locs n x)) []
def ziL (k:Sk):Ext:=⟨[0,1,2],zcY k,0,mrks k.marks (zcY k),zdm (k.rngs.take 2),mvsL (zcY k) (zdm (k.rngs.take 2)).length k.lines (min k.lines.length 8)⟩
theorem zrB (l:List Mv) (y:Mv):∀ n,posR l y n ≤ n
 | 0 => Nat.le_refl _
 | n + 1 => by
  simp only [posR]
  split
  ·rename_i x _
   cases gtMv x y with
   | true => exact Nat.le_succ_of_le (zrB l y n)
   | false => exact Nat.le_refl _
  ·omega
theorem zsd (l:List Mv) (y:Mv):(ziQ l y).length = l.length + 1:=by
 have:=zrB l y l.length
 simp only [ziQ,List.length_append,List.length_take,List.length_cons,List.length_drop]
 omega
theorem zgH {locs n:Int} {l:List Lin} {i:Nat} (h:i < l.length):mvsL locs n l (i + 1) = ziQ (mvsL locs n l i) (mvOf locs n l[i]):=by
 unfold mvsL
 rw [List.take_add_one,List.getElem?_eq_getElem h,List.foldl_append]
 rfl
theorem ziH {locs n:Int} {l:List Lin}:∀ {i:Nat},i ≤ l.length → (mvsL locs n l i).length = i
 | 0,_ => by simp [mvsL]
 | i + 1,h => by rw [zgH h,zsd,ziH (by omega)]
theorem zgt (l:List (Int × Int)):(zdm l).length = min l.length 3:=by simp [zdm]
theorem zrU (marks:Int) (i:Nat):mrks marks (i + 1) = mrks marks i ++ (bif mrkG marks i then [(i:Int)] else []):=by
 unfold mrks
 rw [List.range_succ,List.filter_append,List.map_append]
 congr 1
 cases h:mrkG marks i <;> simp [h]
theorem zni (marks:Int) (n:Nat):(mrks marks n).length ≤ n:=by
 unfold mrks
 rw [List.length_map]
 exact Nat.le_trans (List.length_filter_le _ _) (by simp)
theorem zxa (n m:Nat):(if (n:Int) < (m:Int) then (n:Int) else (m:Int)).toNat = min m n:=by split <;> omega
theorem znT (l:List Int) (n:Nat) {N:Int} (hN:N = (n:Int)):D.i (.sl 1 (if N < (l.length:Int) then N else (l.length:Int)).toNat ((l.map u8I).take (if N < (l.length:Int) then N else (l.length:Int)).toNat)) = byts (l.take n):=by
 subst hN
 rw [zxa,← List.map_take]
 have:l.take (min l.length n) = l.take n:=by rw [List.take_eq_take_iff]; omega
 rw [this,show min l.length n = (l.take n).length by simp only [List.length_take]; omega]
theorem zs2 (l:List Int) (n:Nat) {N A:Int} (hN:N = (n:Int)) (hA:A = 1):D.i (.sl 1 ((if N < (l.length:Int) then N else (l.length:Int)).toNat - A.toNat) (((l.map u8I).take (if N < (l.length:Int) then N else (l.length:Int)).toNat).drop A.toNat)) = byts ((l.take n).drop 1):=by
 subst hN hA
 have:=znT l n (N:=(n:Int)) rfl
 simp only [D.i.injEq,I.sl.injEq,true_and] at this
 rw [this.2,this.1,← List.map_drop]
 congr 2
 simp
theorem zyn (O:List Heap) (k:Sk) (hk:skOk k):zan Tryz.prog 43 [skD k] O (extD (ziL k)) [] O:=by
 obtain ⟨kl,km,kr,kx⟩:=k
 obtain ⟨hloc,hmk,hrl,hr,hll,hx⟩:=hk
 simp only at hloc hmk hrl hr hll hx
 show zan Tryz.prog 43 [.agg [u8Dd kl,u8Dd km,r8s kr,zgO kx]] O (extD (ziL ⟨kl,km,kr,kx⟩)) [] O
 have hrg:=fun O => zuy O (kr.take 2) (Nat.le_trans (List.length_take_le _ _) (by decide)) (fun p hp => hr p (List.mem_of_mem_take hp))
 have hvl:(zdm (kr.take 2)).length ≤ 2:=by
  rw [zgt,List.length_take]
  omega
 have hlo:IntKind.i64.wrap (1 + IntKind.i64.wrap (kl.tmod 4)) = ((1 + (kl % 4).toNat:Nat):Int):=by
  rw [Int.tmod_eq_emod_of_nonneg hloc.1,w64 (n:=kl % 4) (by omega) (by omega),w64 (by omega) (by omega)]
  omega
 generalize hR:ziL ⟨kl,km,kr,kx⟩ = R
 unfold ziL at hR
 simp only [zcY] at hR
 have hL1:1 ≤ 1 + (kl % 4).toNat ∧ 1 + (kl % 4).toNat ≤ 4:=by omega
 generalize 1 + (kl % 4).toNat = L at *
 have hmin:(if (2:Int) < kr.length then (2:Int) else kr.length).toNat = (kr.take 2).length:=by
  simp only [List.length_take]
  split <;> omega
 have htk:(kr.map r8I).take (if (2:Int) < kr.length then (2:Int) else kr.length).toNat = (kr.take 2).map r8I:=by
  rw [hmin,List.map_take,List.take_eq_take_iff]
  simp
 have hobj:D.i (.sl 2 (if (2:Int) < kr.length then (2:Int) else kr.length).toNat ((kr.map r8I).take (if (2:Int) < kr.length then (2:Int) else kr.length).toNat)) = r8s (kr.take 2):=by
  rw [htk,hmin]
 rw [← hobj] at hrg
 clear hobj hmin htk
 generalize zdm (kr.take 2) = V at *
 refine zaN [13,15,17,20] Tk Tryz.func43 rfl Tryz.call43 Tryz.ntmps43 (Nat.le_of_ble_eq_true rfl) fun E => ?_
 refine zah Tk Tryz.func43 ?_
 refine zay Tk Tryz.func43 zaG rfl ?_
 refine zas Tk (by decide) ?_
 refine zas Tk (by split <;> omega) ?_
 refine zaY Tk (fun _ => hrg _) rfl rfl rfl ?_
 refine zdq Tk rfl rfl rfl ?_
 refine zaI Tk Tryz.func43 (by kernel_rfl) ?_
 refine zaf ?_
 refine zaF (l:=[(1,.own 0 1 0 0),(2,.own 0 2 0 0),(3,.own 0 3 0 0),(4,ii 0)]) (Hv:=[(1,.box ([u8Dd kl,u8Dd km,r8s kr,zgO kx])),(2,.box [.i (.v (.slice none 0 0)),ii 0,ii 0,.i (.v (.slice none 0 0)),.i (.v (.slice none 0 0)),.i (.v (.slice none 0 0))]),(3,.box [ints [0,1,2],ii L,ii 0,.i (.v (.slice none 0 0)),vrs V,.i (.v (.slice none 0 0))])]) (n:=182) ?_ ⟨rfl,rfl,rfl,rfl,trivial⟩ rfl ⟨rfl,rfl,by rw [← hlo]; rfl,trivial⟩ rfl rfl
 refine zav (zaH 3 41 3 1 (pre:=[ints [0,1,2],ii L,ii 0]) (post:=[vrs V,.i (.v (.slice none 0 0))]) rfl rfl rfl) ?_
 refine zal (fun i:Nat => [(1,.own 0 1 0 0),(2,.own 0 2 0 0),(3,.own 0 3 0 0),(4,ii i)]) (fun i => [(1,.box ([u8Dd kl,u8Dd km,r8s kr,zgO kx])),(2,.box [.i (.v (.slice none 0 0)),ii 0,ii 0,.i (.v (.slice none 0 0)),.i (.v (.slice none 0 0)),.i (.v (.slice none 0 0))]),(3,.box [ints [0,1,2],ii L,ii 0,.osl 0 41,vrs V,.i (.v (.slice none 0 0))]),(41,zbT (mrks km i))]) (fun _ => O) 182
  (fun i => i ≤ L) (fun i => L - i) 0 (Nat.zero_le _) ⟨rfl,rfl,rfl,rfl,trivial⟩ rfl ⟨rfl,rfl,rfl,rfl,trivial⟩ rfl rfl ?_
 intro i hi ih
 have hms:=zrU km i
 have hml:=zni km i
 have hend:i = L → mrks km i = mrks km L:=fun e => by rw [e]
 generalize mrks km i = M at *
 refine zah Tk Tryz.func43 ?_
 refine zai Tk Tryz.func43 rfl (fun h1 => ?_) (fun h1 => ?_)
 ·have h1:i < L:=by have:=of_decide_eq_true h1; omega
  generalize hq:mrkG km i = q at *
  unfold mrkG at hq
  refine zaj Tk Tryz.func43 (by exact ⟨by omega,by show (i:Int) ≤ 8; omega⟩) ?_
  refine zai Tk Tryz.func43 rfl (fun h2 => ?_) (fun h2 => ?_)
  ·have h2:q = true:=by rw [← hq]; exact h2
   subst h2
   refine zaj Tk Tryz.func43 (by exact ⟨by show (M.length + 1) * 8 ≤ 140737488355328; omega,by show M.length + 1 ≤ 9223372036854775807; omega⟩) ?_
   refine zaf ?_
   refine ih (i + 1) _ _ (by omega) (by omega) ⟨rfl,rfl,rfl,congrArg ii (zaE (n:=4) (by omega) (by decide)),trivial⟩ rfl ⟨rfl,rfl,rfl,?_,trivial⟩ rfl rfl
   rw [hms]
   exact congrArg some (zcg M i)
  ·have h2:q = false:=by rw [← hq]; exact h2
   subst h2
   refine zaf ?_
   refine ih (i + 1) _ _ (by omega) (by omega) ⟨rfl,rfl,rfl,congrArg ii (zaE (n:=4) (by omega) (by decide)),trivial⟩ rfl ⟨rfl,rfl,rfl,?_,trivial⟩ rfl rfl
   rw [hms]
   show some (zbT M) = some (zbT (M ++ []))
   rw [List.append_nil]
 ·have h1:i = L:=by have:=of_decide_eq_false h1; omega
  have hend:=hend h1
  clear ih hms
  refine zaf ?_
  refine zav (zap 41 rfl rfl) ?_
  refine zav (zaH 3 179 187 8 (pre:=[ints [0,1,2],ii L,ii 0,.osl 0 41,vrs V]) (post:=[]) rfl rfl rfl) ?_
  refine zav (zap 179 rfl rfl) ?_
  refine zav (za4 rfl) ?_
  rw [hend] at *
  clear hend hml h1 hi
  generalize mrks km L = M at *
  refine zal (fun i:Nat => [(1,.own 0 1 0 0),(2,.own 0 2 0 0),(3,.own 0 3 0 0),(5,ii V.length),(6,ii i)]) (fun i => [(1,.box ([u8Dd kl,u8Dd km,r8s kr,zgO kx])),(2,.box [.i (.v (.slice none 0 0)),ii 0,ii 0,.i (.v (.slice none 0 0)),.i (.v (.slice none 0 0)),.i (.v (.slice none 0 0))]),(3,.box [ints [0,1,2],ii L,ii 0,ints M,vrs V,mvs (mvsL L V.length kx i)])]) (fun _ => O) 182
   (fun i => i ≤ min kx.length 8) (fun i => min kx.length 8 - i) 0 (Nat.zero_le _) ⟨rfl,rfl,rfl,rfl,rfl,trivial⟩ rfl ⟨rfl,rfl,rfl,trivial⟩ rfl rfl ?_
  intro i hi ih
  have hi:i ≤ min kx.length 8:=hi
  have hsucc:=fun h => zgH (locs:=L) (n:=V.length) (l:=kx) (i:=i) h
  have hlen:=ziH (locs:=L) (n:=V.length) (l:=kx) (i:=i) (by omega)
  have hend:i = min kx.length 8 → R = ⟨[0,1,2],L,0,M,V,mvsL L V.length kx i⟩:=fun e => by rw [← hR,← e]
  clear hR
  generalize mvsL L V.length kx i = W at *
  refine zah Tk Tryz.func43 ?_
  refine zaA Tk Tryz.func43 rfl (fun h1 => ?_) (fun h1 => ?_)
  ·have h1:i < kx.length:=by have:=of_decide_eq_true h1; omega
   refine zai Tk Tryz.func43 rfl (fun h2 => ?_) (fun h2 => ?_)
   ·have h2:i < 8:=by have:=of_decide_eq_true h2; omega
    have hsucc:=hsucc h1
    have hg:(kx.map linI)[(i:Int).toNat]? = some (linI kx[i]):=zam h1
    have hxx:=hx _ (List.getElem_mem h1)
    generalize kx[i] = x at *
    obtain ⟨hx0,hx1,hx2,hgb,hgl,hub,hul⟩:=hxx
    clear hend
    refine zaj Tk Tryz.func43 (by exact ⟨by omega,by show (i:Int) < (kx.length:Int); omega⟩) ?_
    refine zaq Tk Tryz.func43 (hg) ?_
    refine zay Tk Tryz.func43 zaG rfl ?_
    have e3:∀ n:Int,0 ≤ n → n ≤ 255 → IntKind.i64.wrap n = n:=fun n h h' => w64 (by omega) (by omega)
    refine zas Tk (by decide) ?_
    refine zas Tk (by exact (by omega:(L:Int) ≠ 0)) ?_
    refine zas Tk (by decide) ?_
    refine zas Tk (by decide) ?_
    refine zas Tk (by decide) ?_
    refine zas Tk (by exact (by omega:(L:Int) ≠ 0)) ?_
    refine zaY Tk (fun _ => zxZ _) rfl rfl rfl ?_
    refine zdq Tk rfl rfl rfl ?_
    refine zaI Tk Tryz.func43 (by kernel_rfl) ?_
    have hf:(IntKind.i64.wrap x.a0).tmod L = x.a0 % L:=by rw [e3 _ hx0.1 hx0.2,Int.tmod_eq_emod_of_nonneg hx0.1]
    have he:IntKind.i64.wrap (x.a1.tmod 3) = x.a1 % 3:=by rw [Int.tmod_eq_emod_of_nonneg hx1.1,w64 (by omega) (by omega)]
    have ht:(IntKind.i64.wrap x.a2).tmod L = x.a2 % L:=by rw [e3 _ hx2.1 hx2.2,Int.tmod_eq_emod_of_nonneg hx2.1]
    refine zaz ?_
    refine zaF (l:=[(1,.own 0 1 0 0),(2,.own 0 2 0 0),(3,.own 0 3 0 0),(5,ii V.length),(6,ii i),(7,.own 0 7 0 0),(8,.own 0 8 0 0)]) (Hv:=[(1,.box [u8Dd kl,u8Dd km,r8s kr,zgO kx]),(2,.box [.i (.v (.slice none 0 0)),ii 0,ii 0,.i (.v (.slice none 0 0)),.i (.v (.slice none 0 0)),.i (.v (.slice none 0 0))]),(3,.box [ints [0,1,2],ii L,ii 0,ints M,vrs V,mvs W]),(7,.box [u8Dd x.a0,u8Dd x.a1,u8Dd x.a2,byts x.g,byts x.u]),(8,.box [ii (x.a0 % L),ii (x.a1 % 3),ii (x.a2 % L),ii trueE.op,ii trueE.vl,ii trueE.ix,exs trueE.args,.i (.v (.slice none 0 0))])]) (n:=182) ?_ ⟨rfl,rfl,rfl,rfl,rfl,rfl,rfl,trivial⟩ rfl ⟨rfl,rfl,rfl,rfl,by rw [← hf,← he,← ht]; rfl,trivial⟩ rfl rfl
    clear hf he ht e3
    obtain ⟨G,hG⟩:∃ G,G = zfO V.length x.g:=⟨_,rfl⟩
    obtain ⟨U,hU⟩:∃ U,U = zjh V.length x.u:=⟨_,rfl⟩
    apply zbR (P:=True) (s6:={ σ:=[(1,.own 0 1 0 0),(2,.own 0 2 0 0),(3,.own 0 3 0 0),(5,ii V.length),(6,ii i),(7,.own 0 7 0 0),(8,.own 0 8 0 0)],S:=[(1,.box [u8Dd kl,u8Dd km,r8s kr,zgO kx]),(2,.box [.i (.v (.slice none 0 0)),ii 0,ii 0,.i (.v (.slice none 0 0)),.i (.v (.slice none 0 0)),.i (.v (.slice none 0 0))]),(3,.box [ints [0,1,2],ii L,ii 0,ints M,vrs V,mvs W]),(7,.box [u8Dd x.a0,u8Dd x.a1,u8Dd x.a2,byts x.g,byts x.u]),(8,.box [ii (x.a0 % L),ii (x.a1 % 3),ii (x.a2 % L),ii G.op,ii G.vl,ii G.ix,exs G.args,.i (.v (.slice none 0 0))])] :: O,n:=182 })
    ·intro J
     refine zah Tk Tryz.func43 ?_
     refine g_go Tk Tryz.func43 ?_
     refine zai Tk Tryz.func43 rfl (fun h3 => ?_) (fun h3 => ?_)
     ·have h3:0 < x.g.length:=by have:=of_decide_eq_true h3; omega
      have hG2:G = zgY V.length false (x.g.take 12):=by rw [hG]; unfold zfO; rw [if_pos h3]
      have hgr:=fun O => zv1 O (x.g.take 12) V.length false (by omega) (fun b h => hgb b (List.mem_of_mem_take h)) (Nat.le_trans (List.length_take_le _ _) (by decide))
      rw [← hG2,← znT x.g 12 (N:=12) rfl] at hgr
      refine zaj Tk Tryz.func43 (by split <;> omega) ?_
      refine zag Tk Tryz.func43 (hgr _) rfl rfl rfl rfl rfl ?_
      refine zaz ?_
      refine zaF (J trivial) ⟨rfl,rfl,rfl,rfl,rfl,rfl,rfl,trivial⟩ rfl ⟨rfl,rfl,rfl,rfl,rfl,trivial⟩ rfl rfl
     ·have h3:¬ 0 < x.g.length:=by have:=of_decide_eq_false h3; omega
      have hG2:G = trueE:=by rw [hG]; unfold zfO; rw [if_neg h3]
      subst hG2
      refine zaz ?_
      refine zaF (J trivial) ⟨rfl,rfl,rfl,rfl,rfl,rfl,rfl,trivial⟩ rfl ⟨rfl,rfl,rfl,rfl,rfl,trivial⟩ rfl rfl
    ·intro _
     apply zbR (P:=True) (s6:={ σ:=[(1,.own 0 1 0 0),(2,.own 0 2 0 0),(3,.own 0 3 0 0),(5,ii V.length),(6,ii i),(8,.own 0 8 0 0)],S:=[(1,.box [u8Dd kl,u8Dd km,r8s kr,zgO kx]),(2,.box [.i (.v (.slice none 0 0)),ii 0,ii 0,.i (.v (.slice none 0 0)),.i (.v (.slice none 0 0)),.i (.v (.slice none 0 0))]),(3,.box [ints [0,1,2],ii L,ii 0,ints M,vrs V,mvs W]),(8,.box [ii (x.a0 % L),ii (x.a1 % 3),ii (x.a2 % L),ii G.op,ii G.vl,ii G.ix,exs G.args,upds U])] :: O,n:=182 })
     ·intro J
      have nope:¬ (x.u.length > 0 ∧ (V.length:Int) > 0) → U = []:=fun h => by rw [hU]; unfold zjh; rw [if_neg h]
      refine zah Tk Tryz.func43 ?_
      refine g_go Tk Tryz.func43 ?_
      refine zaA Tk Tryz.func43 rfl (fun h3 => ?_) (fun h3 => ?_)
      ·have h3:0 < x.u.length:=by have:=of_decide_eq_true h3; omega
       refine zai Tk Tryz.func43 rfl (fun h4 => ?_) (fun h4 => ?_)
       ·have h4:0 < V.length:=by have:=of_decide_eq_true h4; omega
        have hU2:U = [⟨b0 x.u % V.length,zgY V.length true ((x.u.take 12).drop 1)⟩]:=by rw [hU]; unfold zjh; rw [if_pos ⟨h3,by omega⟩]
        have hgr:=fun O => zv1 O ((x.u.take 12).drop 1) V.length true (by omega) (fun b h => hub b (List.mem_of_mem_take (List.mem_of_mem_drop h))) (Nat.le_trans (by simp only [List.length_drop]; omega) (Nat.le_trans (List.length_take_le 12 x.u) (by decide)))
        rw [← zs2 x.u 12 (N:=12) (A:=1) rfl rfl] at hgr
        generalize zgY V.length true ((x.u.take 12).drop 1) = X at *
        subst hU2
        have hgu:(x.u.map u8I)[(0:Int).toNat]? = some (u8I (b0 x.u)):=by
         cases hxu:x.u with
         | nil => rw [hxu] at h3; simp at h3
         | cons b r => rfl
        have hb0:=zfb hub
        have hbw:(IntKind.i64.wrap (b0 x.u)).tmod V.length = b0 x.u % V.length:=by
         rw [w64 (by omega) (by omega),Int.tmod_eq_emod_of_nonneg hb0.1]
        refine zay Tk Tryz.func43 zaG rfl ?_
        refine zas Tk (by exact ⟨by decide,by show (0:Int) < (x.u.length:Int); omega⟩) ?_
        refine zaJ Tk (hgu) ?_
        refine zas Tk (by exact (by omega:(V.length:Int) ≠ 0)) ?_
        refine zas Tk (by split <;> omega) ?_
        refine zaY Tk (fun _ => hgr _) rfl rfl rfl ?_
        refine zdq Tk rfl rfl rfl ?_
        refine zaI Tk Tryz.func43 (by kernel_rfl) ?_
        refine zaz ?_
        exact zaF (J trivial) ⟨rfl,rfl,rfl,rfl,rfl,rfl,trivial⟩ rfl ⟨rfl,rfl,rfl,by rw [← hbw]; rfl,trivial⟩ rfl rfl
       ·have h4:¬ 0 < V.length:=by have:=of_decide_eq_false h4; omega
        have:=nope (by omega)
        subst this
        refine zaz ?_
        refine zav (zaH 8 122 189 5 (pre:=[ii (x.a0 % L),ii (x.a1 % 3),ii (x.a2 % L),ii G.op,ii G.vl,ii G.ix,exs G.args]) (post:=[]) rfl rfl rfl) ?_
        refine zav (zap 122 rfl rfl) ?_
        refine zav (za4 rfl) ?_
        exact zaF (J trivial) ⟨rfl,rfl,rfl,rfl,rfl,rfl,trivial⟩ rfl ⟨rfl,rfl,rfl,rfl,trivial⟩ rfl rfl
      ·have h3:¬ 0 < x.u.length:=by have:=of_decide_eq_false h3; omega
       have:=nope (by omega)
       subst this
       refine gcF Tk Tryz.func43 rfl ?_
       refine zaz ?_
       refine zav (zaH 8 122 189 5 (pre:=[ii (x.a0 % L),ii (x.a1 % 3),ii (x.a2 % L),ii G.op,ii G.vl,ii G.ix,exs G.args]) (post:=[]) rfl rfl rfl) ?_
       refine zav (zap 122 rfl rfl) ?_
       refine zav (za4 rfl) ?_
       exact zaF (J trivial) ⟨rfl,rfl,rfl,rfl,rfl,rfl,trivial⟩ rfl ⟨rfl,rfl,rfl,rfl,trivial⟩ rfl rfl
     ·intro _
      obtain ⟨y,hy⟩:∃ y,y = mvOf L V.length x:=⟨_,rfl⟩
      refine zaF (l:=[(1,.own 0 1 0 0),(2,.own 0 2 0 0),(3,.own 0 3 0 0),(5,ii V.length),(6,ii i),(8,.own 0 8 0 0)]) (Hv:=[(1,.box [u8Dd kl,u8Dd km,r8s kr,zgO kx]),(2,.box [.i (.v (.slice none 0 0)),ii 0,ii 0,.i (.v (.slice none 0 0)),.i (.v (.slice none 0 0)),.i (.v (.slice none 0 0))]),(3,.box [ints [0,1,2],ii L,ii 0,ints M,vrs V,mvs W]),(8,.box [ii y.frm,ii y.ev,ii y.to,ii y.g.op,ii y.g.vl,ii y.g.ix,exs y.g.args,upds y.us])]) (n:=182) ?_ ⟨rfl,rfl,rfl,rfl,rfl,rfl,trivial⟩ rfl ⟨rfl,rfl,rfl,by rw [hy,hG,hU]; rfl,trivial⟩ rfl rfl
      rw [← hy] at hsucc
      clear hG hU hx0 hx1 hx2 hgb hgl hub hul hg hy G U
      have hW8:W.length ≤ 8:=by omega
      refine zah Tk Tryz.func43 ?_
      refine g_go Tk Tryz.func43 ?_
      refine zaf ?_
      refine zal (fun a:Nat => [(1,.own 0 1 0 0),(2,.own 0 2 0 0),(3,.own 0 3 0 0),(5,ii V.length),(6,ii i),(8,.own 0 8 0 0),(9,ii a)]) (fun a => [(1,.box [u8Dd kl,u8Dd km,r8s kr,zgO kx]),(2,.box [.i (.v (.slice none 0 0)),ii 0,ii 0,.i (.v (.slice none 0 0)),.i (.v (.slice none 0 0)),.i (.v (.slice none 0 0))]),(3,.box [ints [0,1,2],ii L,ii 0,ints M,vrs V,mvs W]),(8,.box [ii y.frm,ii y.ev,ii y.to,ii y.g.op,ii y.g.vl,ii y.g.ix,exs y.g.args,upds y.us])]) (fun _ => O) 182
       (fun a => a ≤ W.length ∧ posR W y W.length = posR W y a) (fun a => a) W.length ⟨Nat.le_refl _,rfl⟩ ⟨rfl,rfl,rfl,rfl,rfl,rfl,rfl,trivial⟩ rfl ⟨rfl,rfl,rfl,rfl,trivial⟩ rfl rfl ?_
      rintro a ⟨ha,hpos⟩ ih2
      apply zbR (P:=posR W y W.length = a) (s6:={ σ:=[(1,.own 0 1 0 0),(2,.own 0 2 0 0),(3,.own 0 3 0 0),(5,ii V.length),(6,ii i),(8,.own 0 8 0 0),(9,ii a)],S:=[(1,.box [u8Dd kl,u8Dd km,r8s kr,zgO kx]),(2,.box [.i (.v (.slice none 0 0)),ii 0,ii 0,.i (.v (.slice none 0 0)),.i (.v (.slice none 0 0)),.i (.v (.slice none 0 0))]),(3,.box [ints [0,1,2],ii L,ii 0,ints M,vrs V,mvs W]),(8,.box [ii y.frm,ii y.ev,ii y.to,ii y.g.op,ii y.g.vl,ii y.g.ix,exs y.g.args,upds y.us])] :: O,n:=182 })
      ·intro J
       cases a with
       | zero =>
        refine zah Tk Tryz.func43 ?_
        refine zay Tk Tryz.func43 zaG rfl ?_
        refine skF Tk ?_
        refine zaI Tk Tryz.func43 (by kernel_rfl) ?_
        refine gcF Tk Tryz.func43 rfl ?_
        refine zaz ?_
        exact zaF (J hpos) ⟨rfl,rfl,rfl,rfl,rfl,rfl,rfl,trivial⟩ rfl ⟨rfl,rfl,rfl,rfl,trivial⟩ rfl rfl
       | succ a =>
        have hgW:(W.map mvI)[(IntKind.i64.wrap (((a + 1:Nat):Int) - 1)).toNat]? = some (mvI (W[a]'(by omega))):=by
         rw [w64 (by omega) (by omega),show (((a + 1:Nat):Int) - 1).toNat = a by omega]
         simp [show a < W.length by omega]
        have hwa:IntKind.i64.wrap (((a + 1:Nat):Int) - 1) = (a:Int):=by rw [w64 (by omega) (by omega)]; omega
        have hwn:0 ≤ IntKind.i64.wrap (((a + 1:Nat):Int) - 1) ∧ IntKind.i64.wrap (((a + 1:Nat):Int) - 1) < (W.length:Int):=by rw [hwa]; omega
        have hpos2:posR W y (a + 1) = bif gtMv (W[a]'(by omega)) y then posR W y a else a + 1:=by
         simp only [posR]
         rw [List.getElem?_eq_getElem (by omega)]
        generalize W[a]'(by omega) = z at *
        have yes:(z.frm > y.frm ∨ (z.frm = y.frm ∧ z.ev > y.ev)) → posR W y W.length = posR W y a:=fun h => by
         rw [hpos,hpos2]; unfold gtMv; rw [decide_eq_true h]; rfl
        have no:¬ (z.frm > y.frm ∨ (z.frm = y.frm ∧ z.ev > y.ev)) → posR W y W.length = a + 1:=fun h => by
         rw [hpos,hpos2]; unfold gtMv; rw [decide_eq_false h]; rfl
        clear hpos hpos2
        refine zah Tk Tryz.func43 ?_
        refine zay Tk Tryz.func43 zaG rfl ?_
        refine zbI Tk (fun h3 => ?_) (fun h3 => ?_)
        ·refine zas Tk (by exact hwn) ?_
         refine zaJ Tk (hgW) ?_
         refine zbI Tk (fun h4 => ?_) (fun h4 => ?_)
         ·have h4:z.frm > y.frm:=of_decide_eq_true h4
          refine zaI Tk Tryz.func43 (by kernel_rfl) ?_
          refine gcT Tk Tryz.func43 rfl ?_
          refine zaf ?_
          exact ih2 a _ _ ⟨by omega,yes (.inl h4)⟩ (by omega) ⟨rfl,rfl,rfl,rfl,rfl,rfl,congrArg ii hwa,trivial⟩ rfl ⟨rfl,rfl,rfl,rfl,trivial⟩ rfl rfl
         ·have h4:¬ z.frm > y.frm:=of_decide_eq_false h4
          refine zas Tk (by exact hwn) ?_
          refine zaJ Tk (hgW) ?_
          refine zbI Tk (fun h5 => ?_) (fun h5 => ?_)
          ·have h5:=beqT h5
           refine zas Tk (by exact hwn) ?_
           refine zaJ Tk (hgW) ?_
           refine zaI Tk Tryz.func43 (by kernel_rfl) ?_
           refine zai Tk Tryz.func43 rfl (fun h6 => ?_) (fun h6 => ?_)
           ·have h6:z.ev > y.ev:=of_decide_eq_true h6
            refine zaf ?_
            exact ih2 a _ _ ⟨by omega,yes (.inr ⟨h5,h6⟩)⟩ (by omega) ⟨rfl,rfl,rfl,rfl,rfl,rfl,congrArg ii hwa,trivial⟩ rfl ⟨rfl,rfl,rfl,rfl,trivial⟩ rfl rfl
           ·have h6:¬ z.ev > y.ev:=of_decide_eq_false h6
            refine zaz ?_
            exact zaF (J (no (by rintro (h | h); exact h4 h; exact h6 h.2))) ⟨rfl,rfl,rfl,rfl,rfl,rfl,rfl,trivial⟩ rfl ⟨rfl,rfl,rfl,rfl,trivial⟩ rfl rfl
          ·have h5:=beqF h5
           refine zaI Tk Tryz.func43 (by kernel_rfl) ?_
           refine gcF Tk Tryz.func43 rfl ?_
           refine zaz ?_
           exact zaF (J (no (by rintro (h | h); exact h4 h; exact h5 h.1))) ⟨rfl,rfl,rfl,rfl,rfl,rfl,rfl,trivial⟩ rfl ⟨rfl,rfl,rfl,rfl,trivial⟩ rfl rfl
        ·have:=of_decide_eq_false h3
         omega
      ·intro hP
       clear ih2 hpos
       refine zah Tk Tryz.func43 ?_
       refine g_go Tk Tryz.func43 ?_
       refine zay Tk Tryz.func43 zaG rfl ?_
       refine zas Tk (by exact ⟨by omega,rfl,by show (a:Int) ≤ (W.length:Int); omega⟩) ?_
       refine zas Tk (by exact ⟨by omega,by show (a:Int) ≤ (W.length:Int); omega⟩) ?_
       refine zuk Tk ?_
       refine zea Tk (by exact ⟨by show (1 + (W.length - (a:Int).toNat)) * 96 ≤ 140737488355328; omega,by show 1 + (W.length - (a:Int).toNat) ≤ 9223372036854775807; omega⟩) ?_
       refine zlx Tk (p:=⟨[(178,.osl 0 178),(173,.dead)],[(178,.arr 187 8 (1 + (W.length - (a:Int).toNat)) ([mvI y] ++ (W.map mvI).drop (a:Int).toNat) true)],some 173⟩) rfl rfl rfl ?_
       refine zea Tk (by exact ⟨by show ((a:Int).toNat + (1 + (W.length - (a:Int).toNat))) * 96 ≤ 140737488355328; omega,by show (a:Int).toNat + (1 + (W.length - (a:Int).toNat)) ≤ 9223372036854775807; omega,by show 0 < 1 + (W.length - (a:Int).toNat); omega⟩) ?_
       refine zlx Tk (p:=⟨[],[(3,.box [ints [0,1,2],ii L,ii 0,ints M,vrs V,.osl 0 179])],none⟩) rfl rfl rfl ?_
       refine zkn Tk Tryz.func43 (by kernel_rfl) (GM.h ?_)
       refine zaf ?_
       refine zav (zap 179 rfl rfl) ?_
       refine zav (za4 rfl) ?_
       have hins:mvsL L V.length kx (i + 1) = W.take a ++ y :: W.drop a:=by rw [hsucc]; unfold ziQ; rw [hP]
       refine ih (i + 1) _ _ (show i + 1 ≤ min kx.length 8 by omega) (by omega) ⟨rfl,rfl,rfl,rfl,congrArg ii (zaE (n:=8) h2 (by decide)),trivial⟩ rfl ⟨rfl,rfl,?_,trivial⟩ rfl rfl
       show some (Ob.box [ints [0,1,2],ii L,ii 0,ints M,vrs V,.i (.sl 8 ((a:Int).toNat + (1 + (W.length - (a:Int).toNat))) ((W.map mvI).take (a:Int).toNat ++ ([mvI y] ++ (W.map mvI).drop (a:Int).toNat)))]) = some (Ob.box [ints [0,1,2],ii L,ii 0,ints M,vrs V,mvs (mvsL L V.length kx (i + 1))])
       rw [hins]
       have hta:(a:Int).toNat = a:=by omega
       have hll:(W.take a ++ y :: W.drop a).length = a + (1 + (W.length - a)):=by
        simp only [List.length_append,List.length_take,List.length_cons,List.length_drop]
        omega
       have hmm:(W.take a ++ y :: W.drop a).map mvI = (W.map mvI).take a ++ ([mvI y] ++ (W.map mvI).drop a):=by
        rw [List.map_append,List.map_cons,List.map_take,List.map_drop]
        rfl
       rw [hta]
       show _ = some (Ob.box [ints [0,1,2],ii L,ii 0,ints M,vrs V,.i (.sl 8 (W.take a ++ y :: W.drop a).length ((W.take a ++ y :: W.drop a).map mvI))])
       rw [hll,hmm]
   ·have h2:¬ i < 8:=by have:=of_decide_eq_false h2; omega
    have:=hend (by omega)
    subst this
    refine zae Tk (r:=_) rfl rfl rfl trivial rfl rfl ?_
    rfl
  ·have h1:¬ i < kx.length:=by have:=of_decide_eq_false h1; omega
   have:=hend (by omega)
   subst this
   refine gcF Tk Tryz.func43 rfl ?_
   refine zae Tk (r:=_) rfl rfl rfl trivial rfl rfl ?_
   rfl
end Go.AI
namespace Go.Proofs.YtnojpbbaohoadaaGreatDoor
open Go.ChangeShapes Go.WideShapes Go.ChangeAt Go.RowKit Go.Deep Go.WideElems
set_option maxRecDepth 100000
section
variable {H:Type} {enc:TypeId × Value → H} {W:World}
theorem zer {α β:Type} {f:α → β} {Q:α → Prop}:∀ {xs:List β},(∀ d ∈ xs,∃ a,d = f a ∧ Q a) → ∃ l:List α,xs = l.map f ∧ ∀ a ∈ l,Q a
 | [],_ => ⟨[],rfl,by simp⟩
 | d :: xs,h => by
  obtain ⟨a,ha,hq⟩:=h d (by simp)
  obtain ⟨l,hl,hql⟩:=zer (xs:=xs) fun e he => h e (by simp [he])
  refine ⟨a :: l,by rw [ha,hl]; rfl,fun b hb => ?_⟩
  rcases List.mem_cons.1 hb with rfl | hb
  ·exact hq
  ·exact hql b hb
theorem wf_u8 {z:Int} (h:(Lit.int .u8 z).wf = true):0 ≤ z ∧ z ≤ 255:=by
 simp only [Lit.wf,Bool.and_eq_true,decide_eq_true_eq] at h
 have e1:IntKind.u8.min = 0:=rfl
 have e2:IntKind.u8.max = 255:=rfl
 rw [e1,e2] at h
 exact h
theorem wf_i8 {z:Int} (h:(Lit.int .i8 z).wf = true):-128 ≤ z ∧ z ≤ 127:=by
 simp only [Lit.wf,Bool.and_eq_true,decide_eq_true_eq] at h
 have e1:IntKind.i8.min = -128:=rfl
 have e2:IntKind.i8.max = 127:=rfl
 rw [e1,e2] at h
 exact h
theorem zdQ {n:Nat} (h:n ≤ maxLen):n ≤ AI.zao:=by
 simp only [maxLen] at h
 simp only [AI.zao]
 omega
theorem ziA:Opn enc Tryz.prog W 71 fun is => ∃ l:List Int,is = [.sl 1 l.length (l.map AI.u8I)] ∧ AI.zb2 l ∧ l.length ≤ AI.zao:=by
 intro n cs x h
 obtain ⟨is,hr,xs,rfl,hx,hl⟩:=zcV Tryz.underlying71 (z:=1) (by kernel_rfl) (by decide) (zdy Tryz.underlying5) n cs x h
 obtain ⟨l,rfl,hq⟩:=zer (f:=AI.u8I) (Q:=fun z => 0 ≤ z ∧ z ≤ 255) (xs:=xs) fun d hd => by
  obtain ⟨z,hz,hw⟩:=hx d hd
  exact ⟨z,hz,wf_u8 hw⟩
 refine ⟨_,hr,l,by simp,hq,zdQ (by simpa using hl)⟩
abbrev skI (k:AI.Sk):List AI.I:=[.v (.int .u8 k.locs),.v (.int .u8 k.marks),.sl 2 k.rngs.length (k.rngs.map AI.r8I),.sl 5 k.lines.length (k.lines.map AI.linI)]
end
end Go.Proofs.YtnojpbbaohoadaaGreatDoor
namespace Go.Proofs.YtnojpbbaohoadaaGreatDoor
open Go.ChangeShapes Go.WideShapes Go.ChangeAt Go.RowKit Go.Deep Go.WideElems
set_option maxRecDepth 100000
section
variable {H:Type} {enc:TypeId × Value → H} {W:World}
theorem okWide_slice {P:Program} {W:World} {r:Reach} {b0:Nat} {t e:TypeId} {v:Value} (ht:P.underlying t = some (.slice e)) (h:Value.okWide P W r b0 t v):v.cells.toList = [v]:=by
 simp only [Value.okWide,ht,Cell.okWide] at h
 cases v <;> simp_all [Cell.ok,Value.cells]
end
end Go.Proofs.YtnojpbbaohoadaaGreatDoor
namespace Go.Proofs.YtnojpbbaohoadaaGreatDoor
open Go.ChangeShapes Go.WideShapes Go.ChangeAt Go.RowKit Go.Deep Go.WideElems
set_option maxRecDepth 100000
section
variable {H:Type} {enc:TypeId × Value → H} {P:Program} {W:World}
end
section
variable {H:Type} {enc:TypeId × Value → H} {W:World}
end
end Go.Proofs.YtnojpbbaohoadaaGreatDoor
namespace Go.AI
abbrev bI (b:Bool):I:=.v (.bool b)
abbrev zpi (l:List ByteArray):I:=.sl 1 l.length (l.map fun s => [strI s])
structure Evt where
 name:ByteArray
 c:Bool
 o:Bool
 f:Bool
 fault:Int
abbrev evtI (x:Evt):List I:=[strI x.name,bI x.c,bI x.o,bI x.f,vi x.fault]
abbrev zbx (l:List Evt):I:=.sl 5 l.length (l.map evtI)
structure Tpl where
 name:ByteArray
 locs:List ByteArray
 evs:List ByteArray
 mach:Ext
abbrev tplI (x:Tpl):List I:=[strI x.name,zpi x.locs,zpi x.evs,zdn x.mach.alpha,vi x.mach.locs,vi x.mach.init,zdn x.mach.marked,vrsI x.mach.vars,.sl 8 x.mach.moves.length (x.mach.moves.map mvI)]
abbrev zcB (l:List Tpl):I:=.sl 9 l.length (l.map tplI)
structure Ins where
 name:ByteArray
 tpl:ByteArray
 evs:List ByteArray
abbrev insI (x:Ins):List I:=[strI x.name,strI x.tpl,zpi x.evs]
abbrev zbB (l:List Ins):I:=.sl 3 l.length (l.map insI)
abbrev NLc:=ByteArray × ByteArray
abbrev nlcI (x:NLc):List I:=[strI x.1,strI x.2]
structure NEx where
 name:ByteArray
 locals:List NLc
abbrev nexI (x:NEx):List I:=[strI x.name,.sl 2 x.locals.length (x.locals.map nlcI)]
abbrev zjI (l:List NEx):I:=.sl 2 l.length (l.map nexI)
abbrev NTm:=ByteArray × Int
abbrev ntmI (x:NTm):List I:=[strI x.1,vi x.2]
structure NCn where
 name:ByteArray
 terms:List NTm
 bound:Int
abbrev ncnI (x:NCn):List I:=[strI x.name,.sl 2 x.terms.length (x.terms.map ntmI),vi x.bound]
abbrev zuO (l:List NCn):I:=.sl 3 l.length (l.map ncnI)
structure Mdl where
 name:ByteArray
 evs:List Evt
 tpls:List Tpl
 comps:List Ins
 reqs:List Ins
 excs:List NEx
 cons:List NCn
abbrev mdlC (m:Mdl):List D:=[.i (strI m.name),.i (zbx m.evs),.i (zcB m.tpls),.i (zbB m.comps),.i (zbB m.reqs),.i (zjI m.excs),.i (zuO m.cons)]
abbrev mdlD (m:Mdl):D:=.agg (mdlC m)
def sB (a b:ByteArray):Bool:=a.data.toList == b.data.toList
theorem zfK {a b:ByteArray}:sB a b = true ↔ a = b:=by
 unfold sB
 rw [beq_iff_eq]
 constructor
 ·intro h
  exact ByteArray.ext (Array.ext' h)
 ·rintro rfl; rfl
theorem zwP (a b:ByteArray):sB a b = sB b a:=by
 rw [Bool.eq_iff_iff,zfK,zfK]
 exact ⟨Eq.symm,Eq.symm⟩
theorem zbb (a b:ByteArray):(a.toList == b.toList) = sB a b:=by
 rw [ByteArray.toList_eq,ByteArray.toList_eq]; rfl
def hasB (l:List ByteArray) (s:ByteArray):Bool:=l.any fun x => sB x s
def nmE (before:List ByteArray) (s:ByteArray):Int:=if zaT s = false then 7 else if hasB before s = true then 8 else 0
def nmsE:List ByteArray → List ByteArray → Int
 | _,[] => 0
 | b,s :: r => if nmE b s ≠ 0 then nmE b s else nmsE (b ++ [s]) r
def evE (before:List ByteArray) (x:Evt):Int:=
 if nmE before x.name ≠ 0 then nmE before x.name else if x.fault < 0 ∨ x.fault > 4 then 2 else if x.fault ≠ 0 ∧ (x.c = true ∨ x.o = true) then 13 else 0
def evsE:List ByteArray → List Evt → Int
 | _,[] => 0
 | b,x :: r => if evE b x ≠ 0 then evE b x else evsE (b ++ [x.name]) r
def zlM (l:List Evt):Int:=if l.length > 32 then 3 else evsE [] l
def tplE (x:Tpl):Int:=
 if (x.locs.length:Int) ≠ x.mach.locs then 4 else if nmsE [] x.locs ≠ 0 then nmsE [] x.locs else if nmsE [] x.evs ≠ 0 then nmsE [] x.evs
 else if x.mach.alpha.length ≠ x.evs.length then 6 else if x.mach.alpha ≠ (List.range x.evs.length).map (fun k => ((k:Nat):Int)) then 6 else chk x.mach
def zgT (m:Mdl):List ByteArray → List ByteArray → Int
 | _,[] => 0
 | b,s :: r => if hasB (m.evs.map (·.name)) s = false then 9 else if hasB b s = true then 8 else zgT m (b ++ [s]) r
def insE (m:Mdl) (x:Ins):Int:=
 match m.tpls.find? (fun t => sB t.name x.tpl) with
 | none => 9
 | some t => if x.evs.length ≠ t.evs.length then 4 else zgT m [] x.evs
abbrev Plc:=Int × Int
def zbp {α:Type} (nm:α → ByteArray) (err:α → Int):List ByteArray → List α → Nat → Option (Nat × Int)
 | _,[],_ => none
 | b,x :: r,i => if nmE b (nm x) ≠ 0 then some (i,nmE b (nm x)) else if err x ≠ 0 then some (i,err x) else zbp nm err (b ++ [nm x]) r (i + 1)
def reqE (m:Mdl) (x:Ins):Int:=if insE m x ≠ 0 then insE m x else if x.evs.any (fun s => !hasB (m.comps.flatMap (·.evs)) s) = true then 9 else 0
def zcT (m:Mdl) (x:Ins):Option Tpl:=m.tpls.find? fun t => sB t.name x.tpl
def lcsE (m:Mdl):List ByteArray → List NLc → Int
 | _,[] => 0
 | b,x :: r => match m.comps.find? (fun c => sB c.name x.1) with
  | none => 9
  | some c => if hasB b x.1 = true then 8 else match zcT m c with
   | none => 9
   | some t => if hasB t.locs x.2 = false then 9 else lcsE m (b ++ [x.1]) r
def excE (m:Mdl) (x:NEx):Int:=if x.locals.length = 0 then 12 else lcsE m [] x.locals
def bigB (n:Int):Bool:=decide (n > 65536) || decide (n < -65536)
def tmsE (m:Mdl):List ByteArray → List NTm → Int
 | _,[] => 0
 | b,x :: r => if hasB (m.comps.map (·.name)) x.1 = false then 9 else if hasB b x.1 = true then 8 else if x.2 = 0 ∨ bigB x.2 = true then 2 else tmsE m (b ++ [x.1]) r
def conE (m:Mdl) (x:NCn):Int:=if x.terms.length = 0 then 12 else if tmsE m [] x.terms ≠ 0 then tmsE m [] x.terms else if bigB x.bound = true then 2 else 0
def plc {α:Type} (k:Int) (o:Option (Nat × Int)) (z:α) (f:Plc × Int → α):α:=match o with
 | some (i,e) => f ((k,(i:Int)),e)
 | none => z
def evsP:List Evt → List Evt → Nat → Option (Nat × Int)
 | _,[],_ => none
 | b,x :: r,i => if zlM (b ++ [x]) ≠ 0 then some (i,zlM (b ++ [x])) else evsP (b ++ [x]) r (i + 1)
def mdlE (m:Mdl):Plc × Int:=
 if zaT m.name = false then ((0,0),7) else
 plc 1 (evsP [] m.evs 0) (
  if m.tpls.length > 16 then ((2,16),3) else
  plc 2 (zbp Tpl.name tplE [] m.tpls 0) (
   if m.comps.length = 0 then ((3,0),12) else if m.comps.length > 8 then ((3,8),3) else if m.comps.length + m.reqs.length > 12 then ((4,12 - (m.comps.length:Int)),3) else
   plc 3 (zbp Ins.name (insE m) [] m.comps 0) (
    plc 4 (zbp Ins.name (reqE m) (m.comps.map (·.name)) m.reqs 0) (
     if m.excs.length > 32 then ((5,32),3) else
     plc 5 (zbp NEx.name (excE m) [] m.excs 0) (
      if m.cons.length > 32 then ((6,32),3) else
      plc 6 (zbp NCn.name (conE m) [] m.cons 0) ((0,0),0) id) id) id) id) id) id
end Go.AI
namespace Go.AI
open Go.Proofs
set_option maxRecDepth 20000
theorem zdg:∀ (k u:Nat),u < 10 ^ (k + 1) → (Lib.decDigits u).length ≤ k + 1
 | 0,u,h => by
  unfold Lib.decDigits
  rw [dif_pos (by omega)]
  simp
 | k + 1,u,h => by
  unfold Lib.decDigits
  split
  ·simp
  ·rw [List.length_append]
   have:=zdg k (u / 10) (by rw [Nat.pow_succ] at h; omega)
   simp only [List.length_cons,List.length_nil]
   omega
theorem zc0 {n:Int} (h0:-9223372036854775808 ≤ n) (h1:n ≤ 9223372036854775807):(zdc n).size ≤ 21:=by
 show (Lib.itoa n).toArray.size ≤ 21
 simp only [List.size_toArray]
 unfold Lib.itoa
 split
 ·have:=zdg 19 n.natAbs (by omega)
  simp only [List.length_cons]
  omega
 ·have:=zdg 19 n.toNat (by omega)
  omega
abbrev i64B (n:Int):Prop:=-9223372036854775808 ≤ n ∧ n ≤ 9223372036854775807
end Go.AI
namespace Go.AI
def renH (a b:Nat):Heap → Heap
 | [] => []
 | (k,o) :: r => (renN a b k,o) :: renH a b r
theorem zcU (a b:Nat):renN a b a = b:=by simp [renN]
theorem zdu {a b n:Nat} (h:n ≠ a):renN a b n = n:=by
 unfold renN
 cases hb:Nat.beq n a with
 | false => rfl
 | true => exact absurd (Nat.eq_of_beq_eq_true hb) h
theorem zjP {a b n:Nat} {o:Ob}:∀ {H:Heap},look H b = none → look (renH a b H) n = some o → ∃ n0,n = renN a b n0 ∧ look H n0 = some o
 | [],_,h => by simp [renH,look] at h
 | (k,x) :: r,hb,h => by
  rw [zac] at hb
  split at hb
  ·cases hb
  ·rename_i hkb
   simp only [renH] at h
   rw [zac] at h
   split at h
   ·rename_i e
    simp only [Option.some.injEq] at h
    subst h
    exact ⟨k,e.symm,by rw [zac,if_pos rfl]⟩
   ·rename_i e
    obtain ⟨n0,h1,h2⟩:=zjP hb h
    refine ⟨n0,h1,?_⟩
    rw [zac,if_neg]
    ·exact h2
    ·intro e2
     subst e2
     exact e h1.symm
theorem zhP {a b n0:Nat} {o:Ob}:∀ {H:Heap},look H b = none → look H n0 = some o → look (renH a b H) (renN a b n0) = some o
 | [],_,h => by simp [look] at h
 | (k,x) :: r,hb,h => by
  rw [zac] at hb
  split at hb
  ·cases hb
  ·rename_i hkb
   rw [zac] at h
   simp only [renH]
   rw [zac]
   split at h
   ·rename_i e
    subst e
    rw [if_pos rfl]; exact h
   ·rename_i e
    rw [if_neg]
    ·exact zhP hb h
    ·intro e2
     by_cases h1:k = a
     ·subst h1
      rw [zcU,zdu (Ne.symm e)] at e2
      subst e2
      rw [hb] at h; cases h
     ·rw [zdu h1] at e2
      by_cases h2:n0 = a
      ·subst h2; rw [zcU] at e2; exact hkb e2
      ·rw [zdu h2] at e2; exact e e2
section
variable {c:Cx} {s:St} {H:Heap} {O:List Heap}
theorem zvJ (a b:Nat) (hS:s.S = H :: O) (hb:look H b = none) (hfl:allH (fun _ o => o.flat) H = true):Wk c s { σ:=renσ a b s.σ,S:=renH a b H :: O,n:=s.n }:=by
 intro K ρ act w hi
 have hh:=hi.h
 rw [hS] at hh
 let ρ':Nat → Nat → Loc:=upd ρ b (ρ 0 a)
 have hρ:∀ n0 o,look H n0 = some o → ρ' 0 (renN a b n0) = ρ 0 n0:=by
  intro n0 o h
  by_cases h1:n0 = a
  ·subst h1; rw [zcU]; exact zaO _ _ _
  ·rw [zdu h1]
   exact zaK _ _ _ (.inr fun e => by subst e; rw [hb] at h; cases h)
 have r1:∀ d n,ρ' (d + 1) n = ρ (d + 1) n:=fun d n => zaK _ _ _ (.inl (by omega))
 have hren:Ren a b ρ ρ' (shape (H :: O)) (shape (renH a b H :: O)):=by
  refine ⟨fun n x e => ?_,fun d n x e => ⟨by simpa [shape,zab] using e,r1 d n⟩⟩
  simp only [shape,zab,List.getElem?_cons_zero] at e ⊢
  cases hl:look H n with
  | none => simp [hl] at e
  | some o =>
   rw [zhP hb hl]
   exact ⟨by simpa [hl] using e,hρ _ _ hl⟩
 have hmv:Moves (fun _ => false) K K ρ ρ' (shape (H :: O)) (shape (renH a b H :: O)):=⟨K.le_refl,fun _ _ h => (by cases h),hren.s⟩
 have hcase:∀ d n o,zab (renH a b H :: O) d n = some o → ∃ n0,zab (H :: O) d n0 = some o ∧ ρ' d n = ρ d n0 ∧ (d = 0 → n = renN a b n0) ∧ (d ≠ 0 → n = n0):=by
  intro d n o e
  cases d with
  | zero =>
   obtain ⟨n0,rfl,h2⟩:=zjP hb (by simpa [zab] using e)
   exact ⟨n0,by simpa [zab] using h2,hρ _ _ h2,fun _ => rfl,fun h => absurd rfl h⟩
  | succ d => exact ⟨n,by simpa [zab] using e,r1 _ _,fun h => absurd h (Nat.succ_ne_zero d),fun _ => rfl⟩
 have e0:∀ f:Nat → Nat → Loc,(fun d n => f (0 + d) n) = f:=by intro f; funext d n; rw [Nat.zero_add]
 refine ⟨K,ρ',⟨hh.holds,?_,?_,hh.size,?_,?_,?_,hh.Kle,hh.Knew,hh.rest⟩,hi.defers,hi.size,fun t d e => ?_⟩
 ·intro d n o e
  obtain ⟨n0,h1,h2,h3,h4⟩:=hcase d n o e
  have h0:=hh.own _ _ _ h1
  rw [h2]
  cases d with
  | zero =>
   rw [e0] at h0 ⊢
   have hf:o.flat = true:=zc4 hfl (by simpa [zab] using h1)
   refine h0.move hmv ?_ (fun _ => rfl) (fun _ _ => rfl)
   cases o with
   | box cs => exact hf
   | tb _ cs => exact hf
   | arr => rfl
   | mp => rfl
  | succ d =>
   have e1:(fun d' n => ρ' (d + 1 + d') n) = fun d' n => ρ (d + 1 + d') n:=by
    funext d' n
    rw [show d + 1 + d' = (d + d') + 1 by omega,r1]
   rw [e1]
   simpa using h0
 ·intro d n o d2 n2 o2 e e2 b1 b2 hbe
  obtain ⟨m1,a1,a2,a3,a4⟩:=hcase d n o e
  obtain ⟨m2,c1,c2,c3,c4⟩:=hcase d2 n2 o2 e2
  rw [a2] at b1 hbe
  rw [c2] at b2 hbe
  obtain ⟨rfl,rfl⟩:=hh.inj _ _ _ _ _ _ a1 c1 b1 b2 hbe
  refine ⟨rfl,?_⟩
  by_cases h:d = 0
  ·rw [a3 h,c3 h]
  ·rw [a4 h,c4 h]
 ·intro b' hb' hno
  refine hh.old b' hb' fun d n o e hbk => ?_
  have:=hno d n o (by simpa [zab] using e) (by rw [r1]; exact hbk)
  rwa [r1] at this
 ·intro n o e hbk
  obtain ⟨n0,h1,h2,_⟩:=hcase 0 n o e
  rw [h2] at hbk ⊢
  exact hh.loc _ _ h1 hbk
 ·intro d
  funext n
  rw [r1,hh.outer]
 ·simp only [zeS] at e
  cases hl:look s.σ t with
  | none => simp [hl] at e
  | some d0 =>
   simp only [hl,Option.map_some,Option.some.injEq] at e
   subst e
   have:=hi.slots _ _ hl
   rw [hS] at this
   exact this.ren hren
end
end Go.AI
namespace Go.AI
open Go.Proofs
set_option maxRecDepth 20000
theorem within_iff:∀ {l:List Vr} {xs:List Int},within l xs = true ↔ xs.length = l.length ∧ ∀ i (h:i < l.length) (h':i < xs.length),l[i].low ≤ xs[i] ∧ xs[i] ≤ l[i].high
 | [],[] => by simp [within]
 | [],_ :: _ => by simp [within]
 | _ :: _,[] => by simp [within]
 | v :: r,x :: ys => by
  simp only [within,Bool.and_eq_true,decide_eq_true_eq,within_iff (l:=r) (xs:=ys),List.length_cons,Nat.add_right_cancel_iff]
  constructor
  ·rintro ⟨⟨h1,h2⟩,h3,h4⟩
   refine ⟨h3,fun i h h' => ?_⟩
   cases i with
   | zero => exact ⟨h1,h2⟩
   | succ i => exact h4 i (by simpa using h) (by simpa using h')
  ·rintro ⟨h3,h4⟩
   exact ⟨h4 0 (by simp) (by simp),h3,fun i h h' => h4 (i + 1) (by simpa using h) (by simpa using h')⟩
theorem zo7 {l:List Vr} {xs:List Int} {k:Nat} {n:Int} (h:within l xs = true) (hk:k < l.length) (hn:l[k].low ≤ n ∧ n ≤ l[k].high):within l (xs.set k n) = true:=by
 rw [within_iff] at h ⊢
 refine ⟨by simpa using h.1,fun i hi hi' => ?_⟩
 rw [List.getElem_set]
 split
 ·rename_i e; subst e; exact hn
 ·exact h.2 i hi (by simpa using hi')
theorem ze8 {all:List Vr}:∀ {l:List Vr} {i:Nat},zbe all l i = 0 → ∀ v ∈ l,(-65536 ≤ v.low ∧ v.high ≤ 65536) ∧ v.low ≤ v.init ∧ v.init ≤ v.high
 | [],_,_,v,hv => by simp at hv
 | x :: r,i,h,v,hv => by
  simp only [zbe] at h
  split at h
  ·rename_i e he
   subst h
   unfold checkVr at he
   split at he; · cases he
   split at he; · cases he
   split at he; · cases he
   split at he; · cases he
   split at he <;> cases he
  ·rename_i he
   rcases List.mem_cons.1 hv with rfl | hv
   ·unfold checkVr at he
    split at he; · cases he
    split at he; · cases he
    split at he; · cases he
    rename_i h3
    split at he; · cases he
    split at he; · cases he
    rename_i h4 h5
    simp only [checkVr.large,Bool.or_eq_true,decide_eq_true_eq,not_or] at h3
    omega
   ·exact ze8 h v hv
theorem zkG {l:List Vr} (h:zbw l = 0):∀ v ∈ l,(-65536 ≤ v.low ∧ v.high ≤ 65536) ∧ v.low ≤ v.init ∧ v.init ≤ v.high:=by
 unfold zbw at h
 split at h
 ·cases h
 ·exact ze8 h
def okS (m:Ext) (s:Sta):Prop:=(0 ≤ s.loc ∧ s.loc < m.locs) ∧ within m.vars s.vals = true
theorem zbD {m:Ext} {s:Sta} (hr:extRight m) (h:okS m s):i64B s.loc ∧ (∀ v ∈ s.vals,i64B v) ∧ s.vals.length ≤ 16 ∧ s.vals.length = m.vars.length ∧ ∀ v ∈ s.vals,-65536 ≤ v ∧ v ≤ 65536:=by
 obtain ⟨h1,h2⟩:=h
 rw [within_iff] at h2
 have hl:=hr.locs
 have hv:=zii hr.vars
 have hb:∀ v ∈ s.vals,-65536 ≤ v ∧ v ≤ 65536:=by
  intro v hm
  obtain ⟨i,hi,rfl⟩:=List.getElem_of_mem hm
  have a:=h2.2 i (by omega) hi
  have b:=zkG hr.vars _ (List.getElem_mem (by omega:i < m.vars.length))
  omega
 exact ⟨⟨by omega,by omega⟩,fun v hm => by have:=hb v hm; exact ⟨by omega,by omega⟩,by omega,h2.1,hb⟩
theorem zir {m:Ext} (hr:extRight m):okS m (zcf m):=by
 refine ⟨hr.init,within_iff.2 ⟨by simp [zcf],fun i h h' => ?_⟩⟩
 simp only [zcf,List.getElem_map]
 exact (zkG hr.vars _ (List.getElem_mem h)).2
theorem zqZ {m:Ext} {vals:List Int}:∀ {l:List Upd} {acc out:List Int},updR m vals l acc = some out → within m.vars acc = true → within m.vars out = true
 | [],acc,out,h,hw => by simp only [updR,Option.some.injEq] at h; subst h; exact hw
 | u :: r,acc,out,h,hw => by
  simp only [updR] at h
  cases hu:m.vars[u.v.toNat]? with
  | none => rw [hu] at h; cases h
  | some v =>
   rw [hu] at h
   simp only at h
   split at h
   ·cases h
   ·rename_i hc
    have hk:u.v.toNat < m.vars.length:=(List.getElem?_eq_some_iff.1 hu).1
    have hkv:m.vars[u.v.toNat] = v:=(List.getElem?_eq_some_iff.1 hu).2
    refine zqZ h (zo7 hw hk ?_)
    rw [hkv]
    omega
theorem zrc {m:Ext} {s:Sta} {ev:Int} (hr:extRight m) (h:okS m s) (hp:(zdl m s ev).2.1 = true):okS m (zdl m s ev).1:=by
 unfold zdl at hp ⊢
 cases hc:(chs s ev m.moves 0 none false).1 with
 | none => rw [hc] at hp; cases hp
 | some k =>
  rw [hc] at hp
  simp only at hp ⊢
  split at hp
  ·cases hp
  ·rename_i he
   rw [if_neg he]
   cases hk:m.moves[k]? with
   | none => rw [hk] at hp; cases hp
   | some x =>
    rw [hk] at hp
    simp only at hp ⊢
    cases hu:updR m s.vals x.us s.vals with
    | none => rw [hu] at hp; cases hp
    | some acc =>
     exact ⟨(hr.mv x (List.mem_of_getElem? hk)).to,zqZ hu h.2⟩
structure Srch where
 sts:List Sta
 frm:List (Int × Int)
 flt:Int × Int
 kind:Int
abbrev zrI (l:List Sta):Ob:=.arr 68 2 l.length (l.map staI) true
structure Good (m:Ext) (S:Srch):Prop where
 len:S.sts.length ≤ 4096
 ok:∀ s ∈ S.sts,okS m s
 fl:S.frm.length = S.sts.length
abbrev zdo (l:List Sta):D:=.i (.sl 2 l.length (l.map staI))
end Go.AI
namespace Go.AI
open Go.Proofs
def over (c:Array Value):Nat → List Value → Array Value
 | _,[] => c
 | o,v :: r => over (c.setIfInBounds o v) (o + 1) r
theorem zgz {K:Kn}:∀ {vs:List Value} {l:List Int},RepL K vs (l.map fun x => [vi x]).flatten → vs = l.map (Value.int .i64)
 | _,[],.nil => rfl
 | _,x :: r,h => by
  simp only [List.map_cons,List.flatten_cons,List.cons_append,List.nil_append] at h
  cases h with
  | cons a b =>
   cases a with
   | v e => rw [zgz b]; rfl
theorem zgR {K:Kn}:∀ (l:List Int),RepL K (l.map (Value.int .i64)) (l.map fun x => [vi x]).flatten
 | [] => .nil
 | x :: r => by
  simp only [List.map_cons,List.flatten_cons,List.cons_append,List.nil_append]
  exact .cons (.v rfl) (zgR r)
end Go.AI
namespace Go.AI
open Go.Proofs
set_option maxRecDepth 20000
def back (frm:List (Int × Int)):Nat → Int × Int → List Int
 | 0,_ => []
 | f + 1,p => if p.1 < 0 then [] else p.2 :: back frm f (frm.getD p.1.toNat (-1,-1))
structure Linked (S:Srch):Prop where
 len:S.frm.length = S.sts.length
 frm:∀ k (h:k < S.frm.length),S.frm[k].1 < k
 flt:S.flt.1 < S.sts.length
 most:S.sts.length ≤ 4096
def runL (m:Ext):List Int → Sta → Int → Sta × Int × Int
 | [],s,n => (s,n,0)
 | ev :: r,s,n => if (zdl m s ev).2.2 ≠ 0 then (zec,0,(zdl m s ev).2.2) else if (zdl m s ev).2.1 = false then (s,n,0) else runL m r (zdl m s ev).1 (n + 1)
def runR (m:Ext) (w:List Int):Sta × Int × Int:=
 if chk m ≠ 0 then (zec,0,chk m) else if w.any (fun ev => decide (ev ∉ m.alpha)) then (zec,0,9) else runL m w (zcf m) 0
end Go.AI
namespace Go.AI
set_option maxRecDepth 20000
section
variable {h:Int} (h1:1 ≤ h) (h2:h ≤ 8191)
include h1 h2
variable {k:Int} (k1:0 ≤ k) (k2:k ≤ h)
omit h1 in
include k1 k2 in
include k1 k2 in
omit h1 in
include k1 k2 in
omit h1 in
include k1 k2 in
omit h1 in
include k1 k2 in
include k1 k2 in
include k1 k2 in
end
def cnt (n:Nat):List Sta:=(List.range n).map fun (i:Nat) => (⟨0,[(i:Int)]⟩:Sta)
section
variable {H:Nat} (h1:1 ≤ H) (h2:H ≤ 8191)
include h1 h2
end
end Go.AI
namespace Go.AI
open Go.Proofs
set_option maxRecDepth 20000
end Go.AI
namespace Go.AI
structure Unf (σ:Type) where
 sts:List σ
 mkl:List Int
 eds:List (Int × Int × Int)
def kOf:List (Int × Int × Int) → Nat → Option Nat
 | [],k => some k
 | e :: r,k => if (0 ≤ e.1 ∧ e.1 < k) ∧ 0 ≤ e.2.2 ∧ e.2.2 ≤ k then kOf r (if e.2.2 = k then k + 1 else k) else none
theorem zla:∀ (l r:List (Int × Int × Int)) (k:Nat),kOf (l ++ r) k = (kOf l k).bind (kOf r)
 | [],r,k => rfl
 | e :: l,r,k => by
  simp only [List.cons_append,kOf]
  split
  ·exact zla l r _
  ·rfl
section
variable {σ:Type} (eq:σ → σ → Bool) (lim:Bool) (step:σ → Int → σ × Bool × Int) (mkd:σ → Bool)
def zcD (i:Nat) (s:σ) (ev:Int) (U:Unf σ):Except Int (Unf σ):=
 if (step s ev).2.2 ≠ 0 then .error (step s ev).2.2 else
 if (step s ev).2.1 = false then .ok U else
 if U.sts.findIdx (eq (step s ev).1) < U.sts.length then .ok { U with eds:=U.eds ++ [((i:Int),ev,((U.sts.findIdx (eq (step s ev).1):Nat):Int))] } else
 if lim = true ∧ U.sts.length = 4096 then .error 3 else
 .ok { sts:=U.sts ++ [(step s ev).1],mkl:=U.mkl,eds:=U.eds ++ [((i:Int),ev,((U.sts.findIdx (eq (step s ev).1):Nat):Int))] }
def za1 (i:Nat) (s:σ):List Int → Unf σ → Except Int (Unf σ)
 | [],U => .ok U
 | ev :: r,U => match zcD eq lim step i s ev U with
  | .error e => .error e
  | .ok U' => za1 i s r U'
def zef (i:Nat) (s:σ) (U:Unf σ):Unf σ:=if mkd s then { U with mkl:=U.mkl ++ [(i:Int)] } else U
def zdk (alpha:List Int):Nat → Nat → Unf σ → Except Int (Unf σ)
 | 0,_,U => .ok U
 | f + 1,i,U => match U.sts[i]? with
  | none => .ok U
  | some s => match za1 eq lim step i s alpha (zef mkd i s U) with
   | .error e => .error e
   | .ok U' => zdk alpha f (i + 1) U'
def unf0 (first:σ):Unf σ:=⟨[first],[],[]⟩
def unfR (alpha:List Int) (first:σ):Except Int (Unf σ):=zdk eq lim step mkd alpha 4097 0 (unf0 first)
theorem zeI (i:Nat) (s:σ) (U:Unf σ):(zef mkd i s U).sts = U.sts ∧ (zef mkd i s U).eds = U.eds:=by
 unfold zef; split <;> exact ⟨rfl,rfl⟩
end
theorem zeZ {α:Type} {p q:α → Bool}:∀ {l:List α},(∀ x ∈ l,p x = q x) → l.findIdx p = l.findIdx q
 | [],_ => rfl
 | x :: r,h => by
  rw [List.findIdx_cons,List.findIdx_cons,h x (by simp),zeZ (l:=r) fun y hy => h y (by simp [hy])]
theorem zfR {α:Type} {p:α → Bool}:∀ {l:List α},(∀ x ∈ l,p x = false) → l.findIdx p = l.length
 | [],_ => rfl
 | x :: r,h => by
  rw [List.findIdx_cons,h x (by simp),zfR (l:=r) fun y hy => h y (by simp [hy])]
  rfl
theorem zg6 {α:Type} {p:α → Bool}:∀ {l:List α} (r:List α),(∃ x ∈ l,p x = true) → (l ++ r).findIdx p = l.findIdx p
 | [],_,h => by obtain ⟨x,hx,_⟩:=h; cases hx
 | x :: l,r,h => by
  rw [List.cons_append,List.findIdx_cons,List.findIdx_cons]
  cases hx:p x with
  | true => rfl
  | false =>
   rw [zg6 r]
   obtain ⟨y,hy,hp⟩:=h
   rcases List.mem_cons.1 hy with rfl | hy
   ·rw [hx] at hp; cases hp
   ·exact ⟨y,hy,hp⟩
theorem zh3 {α:Type} {p:α → Bool}:∀ {l:List α},(∃ x ∈ l,p x = true) → l.findIdx p < l.length
 | [],h => by obtain ⟨x,hx,_⟩:=h; cases hx
 | x :: l,h => by
  rw [List.findIdx_cons]
  cases hx:p x with
  | true => exact Nat.zero_lt_succ _
  | false =>
   have:=zh3 (p:=p) (l:=l) (by
    obtain ⟨y,hy,hp⟩:=h
    rcases List.mem_cons.1 hy with rfl | hy
    ·rw [hx] at hp; cases hp
    ·exact ⟨y,hy,hp⟩)
   simp only [cond_false,List.length_cons]
   omega
theorem findIdx_le {α:Type} {p:α → Bool}:∀ {l:List α},l.findIdx p ≤ l.length
 | [] => Nat.le_refl _
 | x :: l => by
  have:=findIdx_le (p:=p) (l:=l)
  rw [List.findIdx_cons]
  cases p x with
  | true => exact Nat.zero_le _
  | false => simp only [cond_false,List.length_cons]; omega
section
variable {σ:Type} [DecidableEq σ]
def eqB (a b:σ):Bool:=decide (a = b)
theorem zva {l:List σ} (hn:l.Nodup) {i:Nat} (h:i < l.length):l.findIdx (eqB l[i]) = i:=by
 induction l generalizing i with
 | nil => cases h
 | cons x r ih =>
  rw [List.nodup_cons] at hn
  rw [List.findIdx_cons]
  cases i with
  | zero => simp [eqB]
  | succ i =>
   have hi:i < r.length:=by simpa using h
   have hne:r[i] ≠ x:=fun e => hn.1 (e ▸ List.getElem_mem hi)
   have e1:eqB ((x :: r)[i + 1]) x = false:=by simp [eqB,hne]
   rw [e1]
   simp only [cond_false,List.getElem_cons_succ]
   rw [ih hn.2 hi]
theorem zxv {l:List σ} {s:σ} (h:s ∈ l):l[l.findIdx (eqB s)]? = some s:=by
 induction l with
 | nil => cases h
 | cons x r ih =>
  rw [List.findIdx_cons]
  by_cases e:s = x
  ·subst e; simp [eqB]
  ·have e1:eqB s x = false:=by simp [eqB,e]
   rw [e1]
   simp only [cond_false,List.getElem?_cons_succ]
   exact ih (by simpa [e] using h)
variable (step:σ → Int → σ × Bool × Int) (mkd:σ → Bool)
def eOf (sts:List σ) (i:Nat) (s:σ) (ev:Int):Option (Int × Int × Int):=if (step s ev).2.1 = true then some ((i:Int),ev,((sts.findIdx (eqB (step s ev).1):Nat):Int)) else none
theorem zsM {sts r:List σ} {i:Nat} {s:σ} {ev:Int} (h:(step s ev).2.1 = true → (step s ev).1 ∈ sts):eOf step (sts ++ r) i s ev = eOf step sts i s ev:=by
 unfold eOf
 split
 ·rename_i hp
  rw [zg6 r ⟨_,h hp,by simp [eqB]⟩]
 ·rfl
theorem zcn {α β:Type} {f g:α → Option β}:∀ {l:List α},(∀ x ∈ l,f x = g x) → l.filterMap f = l.filterMap g
 | [],_ => rfl
 | x :: r,h => by
  simp only [List.filterMap_cons,h x (by simp)]
  rw [zcn (l:=r) fun y hy => h y (by simp [hy])]
structure Fin1 (eq:σ → σ → Bool) (lim:Bool) (P:σ → Prop):Prop where
 step:∀ s ev,P s → (step s ev).2.1 = true → P (step s ev).1
 eq:∀ s t,P s → P t → eq s t = eqB s t
 few:lim = true → ∀ l:List σ,(∀ s ∈ l,P s) → l.Nodup → l.length < 4096
structure UOk (P:σ → Prop) (U:Unf σ):Prop where
 ok:∀ s ∈ U.sts,P s
 nd:U.sts.Nodup
 fr:kOf U.eds 1 = some U.sts.length
variable {step} {eq:σ → σ → Bool} {lim:Bool} {P:σ → Prop}
theorem zkH (hF:Fin1 step eq lim P) {i:Nat} {s:σ} {ev:Int} {U:Unf σ} (hU:UOk P U) (hs:P s) (hi:i < U.sts.length) :
  if (step s ev).2.2 ≠ 0 then zcD eq lim step i s ev U = .error (step s ev).2.2 else ∃ r,zcD eq lim step i s ev U = .ok ⟨U.sts ++ r,U.mkl,U.eds ++ [ev].filterMap (eOf step (U.sts ++ r) i s)⟩ ∧
   UOk P ⟨U.sts ++ r,U.mkl,U.eds ++ [ev].filterMap (eOf step (U.sts ++ r) i s)⟩ ∧ ((step s ev).2.1 = true → (step s ev).1 ∈ U.sts ++ r):=by
 unfold zcD
 split
 ·rfl
 cases hp:(step s ev).2.1 with
 | false =>
  refine ⟨[],?_,?_,fun h => by cases h⟩
  ·simp [List.filterMap_cons,eOf,hp]
  ·simpa [List.filterMap_cons,eOf,hp] using hU
 | true =>
  have hn:=hF.step s ev hs hp
  have hq:U.sts.findIdx (eq (step s ev).1) = U.sts.findIdx (eqB (step s ev).1):=zeZ fun x hx => hF.eq _ _ hn (hU.ok x hx)
  rw [hq]
  simp only [Bool.true_eq_false,if_false]
  by_cases hm:(step s ev).1 ∈ U.sts
  ·have hlt:U.sts.findIdx (eqB (step s ev).1) < U.sts.length:=zh3 ⟨_,hm,by simp [eqB]⟩
   rw [if_pos hlt]
   have e1:[ev].filterMap (eOf step (U.sts ++ []) i s) = [((i:Int),ev,((U.sts.findIdx (eqB (step s ev).1):Nat):Int))]:=by
    simp [List.filterMap_cons,eOf,hp]
   refine ⟨[],?_,⟨?_,?_,?_⟩,fun _ => by simpa using hm⟩
   ·rw [e1,List.append_nil]
   ·simpa using hU.ok
   ·simpa using hU.nd
   ·show kOf (U.eds ++ _) 1 = some (U.sts ++ []).length
    rw [e1,zla,hU.fr,List.append_nil]
    simp only [Option.bind_some,kOf]
    rw [if_pos ⟨⟨by omega,by omega⟩,by omega,by omega⟩,if_neg (by omega)]
  ·have hno:U.sts.findIdx (eqB (step s ev).1) = U.sts.length:=zfR fun x hx => by
    simp only [eqB,decide_eq_false_iff_not]
    exact fun e => hm (e ▸ hx)
   have hnd:(U.sts ++ [(step s ev).1]).Nodup:=by
    unfold List.Nodup
    rw [List.pairwise_append]
    refine ⟨hU.nd,List.pairwise_singleton _ _,fun a ha b hb => ?_⟩
    rw [List.mem_singleton] at hb
    subst hb
    exact fun e => hm (e ▸ ha)
   have hok:∀ t ∈ U.sts ++ [(step s ev).1],P t:=by
    intro t ht
    rcases List.mem_append.1 ht with ht | ht
    ·exact hU.ok t ht
    ·rw [List.mem_singleton] at ht; subst ht; exact hn
   have hfew:¬ (lim = true ∧ U.sts.length = 4096):=by
    rintro ⟨h1,h2⟩
    have:=hF.few h1 _ hok hnd
    simp only [List.length_append,List.length_singleton] at this
    omega
   rw [hno,if_neg (Nat.lt_irrefl _),if_neg hfew]
   have e2:(U.sts ++ [(step s ev).1]).findIdx (eqB (step s ev).1) = U.sts.length:=by
    have h:=zva hnd (i:=U.sts.length) (by simp)
    simpa using h
   have e1:[ev].filterMap (eOf step (U.sts ++ [(step s ev).1]) i s) = [((i:Int),ev,((U.sts.length:Nat):Int))]:=by
    simp [List.filterMap_cons,eOf,hp,e2]
   refine ⟨[(step s ev).1],?_,⟨hok,hnd,?_⟩,fun _ => by simp⟩
   ·rw [e1]
   ·show kOf (U.eds ++ _) 1 = some (U.sts ++ _).length
    rw [e1,zla,hU.fr]
    simp only [Option.bind_some,kOf]
    rw [if_pos ⟨⟨by omega,by omega⟩,by omega,by omega⟩,if_pos True.intro]
    simp
theorem zfE (hF:Fin1 step eq lim P) {i:Nat} {s:σ} (hs:P s):∀ (l:List Int) {U:Unf σ},UOk P U → i < U.sts.length →
  (∃ ev ∈ l,(step s ev).2.2 ≠ 0 ∧ za1 eq lim step i s l U = .error (step s ev).2.2) ∨ ∃ r,za1 eq lim step i s l U = .ok ⟨U.sts ++ r,U.mkl,U.eds ++ l.filterMap (eOf step (U.sts ++ r) i s)⟩ ∧
   UOk P ⟨U.sts ++ r,U.mkl,U.eds ++ l.filterMap (eOf step (U.sts ++ r) i s)⟩ ∧ ∀ ev ∈ l,(step s ev).2.2 = 0 ∧ ((step s ev).2.1 = true → (step s ev).1 ∈ U.sts ++ r)
 | [],U,hU,_ => .inr ⟨[],by simp [za1],by simpa using hU,by simp⟩
 | ev :: l,U,hU,hi => by
  have h:=zkH hF (ev:=ev) hU hs hi
  by_cases he:(step s ev).2.2 ≠ 0
  ·rw [if_pos he] at h
   refine .inl ⟨ev,by simp,he,?_⟩
   simp only [za1,h]
  rw [if_neg he] at h
  obtain ⟨r,h1,h2,h3⟩:=h
  simp only [za1,h1]
  have hi':i < (U.sts ++ r).length:=by rw [List.length_append]; omega
  rcases zfE hF hs l h2 hi' with ⟨e,he1,he2,he3⟩ | ⟨r',h4,h5,h6⟩
  ·exact .inl ⟨e,by simp [he1],he2,he3⟩
  ·have e1:[ev].filterMap (eOf step (U.sts ++ r) i s) ++ l.filterMap (eOf step (U.sts ++ (r ++ r')) i s) = (ev :: l).filterMap (eOf step (U.sts ++ (r ++ r')) i s):=by
    rw [← List.append_assoc U.sts r r']
    rw [zcn (g:=eOf step (U.sts ++ r ++ r') i s) (l:=[ev]) fun x hx => by rw [List.mem_singleton] at hx; subst hx; exact (zsM step h3).symm]
    rw [← List.filterMap_append]
    rfl
   simp only [List.append_assoc] at h4 h5 h6
   rw [e1] at h4 h5
   refine .inr ⟨r ++ r',h4,h5,fun x hx => ?_⟩
   rcases List.mem_cons.1 hx with rfl | hx
   ·refine ⟨by simpa using he,fun hp => ?_⟩
    rw [← List.append_assoc]
    exact List.mem_append_left _ (h3 hp)
   ·exact h6 x hx
structure UAt (mkd:σ → Bool) (alpha:List Int) (P:σ → Prop) (step:σ → Int → σ × Bool × Int) (i:Nat) (U:Unf σ):Prop extends UOk P U where
 le:i ≤ U.sts.length
 pos:0 < U.sts.length
 eds:U.eds = (List.range i).flatMap fun k => match U.sts[k]? with
  | none => []
  | some s => alpha.filterMap (eOf step U.sts k s)
 mkl:U.mkl = ((List.range i).filter fun k => match U.sts[k]? with
  | none => false
  | some s => mkd s).map fun k => ((k:Nat):Int)
 fine:∀ k s,k < i → U.sts[k]? = some s → ∀ ev ∈ alpha,(step s ev).2.2 = 0 ∧ ((step s ev).2.1 = true → (step s ev).1 ∈ U.sts)
def UBad (alpha:List Int) (P:σ → Prop) (step:σ → Int → σ × Bool × Int) (e:Int):Prop:=e ≠ 0 ∧ ∃ s,P s ∧ ∃ ev ∈ alpha,(step s ev).2.2 = e
theorem zd7 {α β:Type} {f g:α → List β}:∀ {l:List α},(∀ x ∈ l,f x = g x) → l.flatMap f = l.flatMap g
 | [],_ => rfl
 | x :: r,h => by
  simp only [List.flatMap_cons,h x (by simp)]
  rw [zd7 (l:=r) fun y hy => h y (by simp [hy])]
theorem ze0 {α:Type} {f g:α → Bool}:∀ {l:List α},(∀ x ∈ l,f x = g x) → l.filter f = l.filter g
 | [],_ => rfl
 | x :: r,h => by
  simp only [List.filter_cons,h x (by simp)]
  rw [ze0 (l:=r) fun y hy => h y (by simp [hy])]
theorem zhC (hF:Fin1 step eq lim P) {alpha:List Int} {B:Nat} (hB:∀ l:List σ,(∀ s ∈ l,P s) → l.Nodup → l.length ≤ B):∀ (f i:Nat) {U:Unf σ},UAt mkd alpha P step i U → B < i + f →
  (∃ e,zdk eq lim step mkd alpha f i U = .error e ∧ UBad alpha P step e) ∨ ∃ V,zdk eq lim step mkd alpha f i U = .ok V ∧ UAt mkd alpha P step V.sts.length V
 | 0,i,U,h,hf => by
  have:=hB _ h.ok h.nd
  have:=h.le
  omega
 | f + 1,i,U,h,hf => by
  simp only [zdk]
  cases hs:U.sts[i]? with
  | none =>
   have hi:i = U.sts.length:=by
    have:=List.getElem?_eq_none_iff.1 hs
    have:=h.le
    omega
   subst hi
   exact .inr ⟨U,rfl,h⟩
  | some s =>
   obtain ⟨hlt,e⟩:=List.getElem?_eq_some_iff.1 hs
   have hPs:P s:=h.ok s (e ▸ List.getElem_mem hlt)
   obtain ⟨m1,m2⟩:=zeI mkd i s U
   have hM:UOk P (zef mkd i s U):=⟨by rw [m1]; exact h.ok,by rw [m1]; exact h.nd,by rw [m1,m2]; exact h.fr⟩
   rcases zfE hF hPs alpha hM (i:=i) (by rw [m1]; exact hlt) with ⟨ev,he1,he2,he3⟩ | ⟨r,h4,h5,h6⟩
   ·simp only [he3]
    exact .inl ⟨_,rfl,he2,s,hPs,ev,he1,rfl⟩
   ·simp only [h4]
    rw [m1,m2] at *
    refine zhC hF hB f (i + 1) (U:=_) ⟨h5,?_,?_,?_,?_,?_⟩ (by omega)
    ·show i + 1 ≤ (U.sts ++ r).length
     simp only [List.length_append]; omega
    ·show 0 < (U.sts ++ r).length
     simp only [List.length_append]; omega
    ·show U.eds ++ alpha.filterMap (eOf step (U.sts ++ r) i s) = (List.range (i + 1)).flatMap fun k => match (U.sts ++ r)[k]? with
      | none => []
      | some s => alpha.filterMap (eOf step (U.sts ++ r) k s)
     rw [List.range_succ,List.flatMap_append,h.eds]
     congr 1
     ·apply zd7
      intro k hk
      rw [List.mem_range] at hk
      have hkl:k < U.sts.length:=by omega
      rw [List.getElem?_append_left hkl,List.getElem?_eq_getElem hkl]
      simp only
      apply zcn
      intro x hx
      exact (zsM step (h.fine k _ hk (List.getElem?_eq_getElem hkl) x hx).2).symm
     ·simp only [List.flatMap_cons,List.flatMap_nil,List.append_nil]
      rw [List.getElem?_append_left hlt,hs]
    ·show (zef mkd i s U).mkl = ((List.range (i + 1)).filter fun k => match (U.sts ++ r)[k]? with
      | none => false
      | some s => mkd s).map fun k => ((k:Nat):Int)
     rw [List.range_succ,List.filter_append,List.map_append]
     have e1:((List.range i).filter fun k => match (U.sts ++ r)[k]? with
      | none => false
      | some s => mkd s) = ((List.range i).filter fun k => match U.sts[k]? with
      | none => false
      | some s => mkd s):=ze0 fun k hk => by
       rw [List.mem_range] at hk
       rw [List.getElem?_append_left (by omega)]
     rw [e1,← h.mkl]
     have e2:(match (U.sts ++ r)[i]? with
      | none => false
      | some s => mkd s) = mkd s:=by
      rw [List.getElem?_append_left hlt,hs]
     simp only [List.filter_cons,List.filter_nil,e2]
     unfold zef
     split <;> simp
    ·intro k t hk ht x hx
     show (step t x).2.2 = 0 ∧ ((step t x).2.1 = true → (step t x).1 ∈ U.sts ++ r)
     have ht:(U.sts ++ r)[k]? = some t:=ht
     by_cases hki:k = i
     ·subst hki
      rw [List.getElem?_append_left hlt,hs] at ht
      simp only [Option.some.injEq] at ht
      subst ht
      exact h6 x hx
     ·have hkl:k < i:=by omega
      rw [List.getElem?_append_left (by omega)] at ht
      have:=h.fine k t hkl ht x hx
      exact ⟨this.1,fun hp => List.mem_append_left _ (this.2 hp)⟩
theorem zq2 (hF:Fin1 step eq lim P) {alpha:List Int} {first:σ} (h0:P first) {B:Nat} (hB:∀ l:List σ,(∀ s ∈ l,P s) → l.Nodup → l.length ≤ B) (hb:B < 4097) :
  (∃ e,unfR eq lim step mkd alpha first = .error e ∧ UBad alpha P step e) ∨ ∃ V,unfR eq lim step mkd alpha first = .ok V ∧ UAt mkd alpha P step V.sts.length V:=by
 refine zhC mkd hF hB 4097 0 ⟨⟨?_,?_,rfl⟩,Nat.zero_le _,Nat.zero_lt_succ _,rfl,rfl,fun k s hk => absurd hk (Nat.not_lt_zero _)⟩ (by omega)
 ·intro s hs
  rw [unf0,List.mem_singleton] at hs
  subst hs
  exact h0
 ·simp [unf0]
end
abbrev Edg:=Int × Int × Int
structure Aut where
 alpha:List Int
 states:Int
 marked:List Int
 edges:List Edg
abbrev edgI (e:Edg):List I:=[vi e.1,vi e.2.1,vi e.2.2]
abbrev edgs (l:List Edg):D:=.i (.sl 3 l.length (l.map edgI))
abbrev autD (a:Aut):D:=.agg [ints a.alpha,ii a.states,ints a.marked,edgs a.edges]
abbrev autC (a:Aut):List D:=[ints a.alpha,ii a.states,ints a.marked,edgs a.edges]
def zcL (alpha:List Int) (n:Int):Option Edg → List Edg → Int
 | _,[] => 0
 | prev,x :: r => if x.1 < 0 ∨ x.1 ≥ n ∨ x.2.2 < 0 ∨ x.2.2 ≥ n then 2 else if x.2.1 ∉ alpha then 9 else
  if prev.any (fun y => decide (x.1 < y.1 ∨ x.1 = y.1 ∧ x.2.1 ≤ y.2.1)) = true then 5 else zcL alpha n (some x) r
def chkA (a:Aut):Int:=if zaw 32 a.alpha none ≠ 0 then zaw 32 a.alpha none else if a.states < 0 then 2 else if a.states > 4096 then 3 else
 if zaw a.states a.marked none ≠ 0 then zaw a.states a.marked none else zcL a.alpha a.states none a.edges
def ltE (x y:Edg):Prop:=x.1 < y.1 ∨ x.1 = y.1 ∧ x.2.1 < y.2.1
theorem zr0 {x y z:Edg} (h:ltE x y) (h':ltE y z):ltE x z:=by
 unfold ltE at *
 omega
theorem zkw {alpha:List Int} {n:Int}:∀ {l:List Edg} {p:Option Edg},l.Pairwise ltE → (∀ x ∈ l,(0 ≤ x.1 ∧ x.1 < n) ∧ (0 ≤ x.2.2 ∧ x.2.2 < n) ∧ x.2.1 ∈ alpha) → (∀ y,p = some y → ∀ x ∈ l,ltE y x) → zcL alpha n p l = 0
 | [],_,_,_,_ => rfl
 | x :: r,p,hp,hb,hy => by
  rw [List.pairwise_cons] at hp
  have hx:=hb x (by simp)
  simp only [zcL]
  rw [if_neg (by omega),if_neg (by simpa using hx.2.2),if_neg]
  ·exact zkw hp.2 (fun z hz => hb z (by simp [hz])) (fun y e z hz => by cases e; exact hp.1 z hz)
  ·cases p with
   | none => simp
   | some y =>
    have:=hy y rfl x (by simp)
    unfold ltE at this
    simp only [Option.any_some,decide_eq_true_eq]
    omega
theorem zdh {alpha:List Int} {n:Int}:∀ {l:List Edg} {p:Option Edg},zcL alpha n p l = 0 → l.Pairwise ltE ∧ (∀ x ∈ l,(0 ≤ x.1 ∧ x.1 < n) ∧ (0 ≤ x.2.2 ∧ x.2.2 < n) ∧ x.2.1 ∈ alpha) ∧ ∀ y,p = some y → ∀ x ∈ l,ltE y x
 | [],p,_ => ⟨.nil,by simp,by simp⟩
 | x :: r,p,h => by
  simp only [zcL] at h
  split at h
  ·cases h
  rename_i h1
  split at h
  ·cases h
  rename_i h2
  split at h
  ·cases h
  rename_i h3
  obtain ⟨i1,i2,i3⟩:=zdh h
  refine ⟨List.pairwise_cons.2 ⟨fun z hz => i3 x rfl z hz,i1⟩,?_,?_⟩
  ·intro z hz
   rcases List.mem_cons.1 hz with rfl | hz
   ·exact ⟨by omega,by omega,by simpa using h2⟩
   ·exact i2 z hz
  ·rintro y rfl z hz
   simp only [Option.any_some,decide_eq_true_eq] at h3
   have hxy:ltE y x:=by unfold ltE; omega
   rcases List.mem_cons.1 hz with rfl | hz
   ·exact hxy
   ·exact zr0 hxy (i3 x rfl z hz)
def lowE (l:List Edg) (s:Int):Nat:=l.findIdx fun e => decide (s ≤ e.1)
def zeh (l:List Edg):Prop:=l.Pairwise fun x y => x.1 ≤ y.1
theorem zhG {l:List Edg} (h:l.Pairwise ltE):zeh l:=h.imp fun {a b} h => by unfold ltE at h; omega
theorem zfl (l:List Edg) (s:Int):lowE l s ≤ l.length:=findIdx_le
theorem ziM {l:List Edg} {s:Int} {j:Nat} (h:j < lowE l s) (hj:j < l.length):l[j].1 < s:=by
 have:=List.not_of_lt_findIdx h
 simp only [decide_eq_false_iff_not] at this
 omega
theorem zk6 {l:List Edg} {s:Int} (hs:zeh l) {j:Nat} (h:lowE l s ≤ j) (hj:j < l.length):s ≤ l[j].1:=by
 have hl:lowE l s < l.length:=by omega
 have h0:decide (s ≤ (l[lowE l s]).1) = true:=List.findIdx_getElem (p:=fun e:Edg => decide (s ≤ e.1)) (w:=hl)
 have h0:=of_decide_eq_true h0
 rcases Nat.lt_or_eq_of_le h with h | h
 ·have:=(List.pairwise_iff_getElem.1 hs) _ _ hl hj h
  omega
 ·simp only [h] at h0
  exact h0
theorem zr1 {l:List Edg} (hs:zeh l) {s t:Int} (h:s ≤ t):lowE l s ≤ lowE l t:=by
 rcases Nat.lt_or_ge (lowE l t) (lowE l s) with h1 | h1
 ·have hl:lowE l t < l.length:=by have:=zfl l s; omega
  have a:=ziM h1 hl
  have b:=zk6 hs (Nat.le_refl _) hl
  omega
 ·exact h1
def outR (l:List Edg) (s:Int):List Edg:=(l.take (lowE l (s + 1))).drop (lowE l s)
theorem zeP (l:List Edg) (s:Int):(outR l s).length = lowE l (s + 1) - lowE l s:=by
 have:=zfl l (s + 1)
 unfold outR
 rw [List.length_drop,List.length_take]
 omega
theorem znd {l:List Edg} {s:Int} {j:Nat} (h:j < (outR l s).length):∃ h':lowE l s + j < l.length,(outR l s)[j] = l[lowE l s + j]:=by
 have h1:=zeP l s
 have:=zfl l (s + 1)
 refine ⟨by omega,?_⟩
 simp only [outR,List.getElem_drop,List.getElem_take]
theorem zuD {l:List Edg} (hs:zeh l) {s:Int}:∀ x ∈ outR l s,x.1 = s:=by
 intro x hx
 obtain ⟨j,hj,rfl⟩:=List.getElem_of_mem hx
 obtain ⟨h',e⟩:=znd hj
 rw [e]
 have h1:=zk6 hs (Nat.le_add_right (lowE l s) j) h'
 have h2:=ziM (s:=s + 1) (j:=lowE l s + j) (by rw [zeP] at hj; omega) h'
 omega
theorem zuC {l:List Edg} (hs:zeh l) {x:Edg} (hx:x ∈ l):x ∈ outR l x.1:=by
 obtain ⟨j,hj,rfl⟩:=List.getElem_of_mem hx
 have h1:lowE l (l[j]).1 ≤ j:=by
  rcases Nat.lt_or_ge j (lowE l (l[j]).1) with h | h
  ·have:=ziM h hj; omega
  ·exact h
 have h2:j < lowE l ((l[j]).1 + 1):=by
  rcases Nat.lt_or_ge j (lowE l ((l[j]).1 + 1)) with h | h
  ·exact h
  ·have:=zk6 hs h hj; omega
 have hlen:j - lowE l (l[j]).1 < (outR l (l[j]).1).length:=by rw [zeP]; omega
 obtain ⟨h',e⟩:=znd hlen
 rw [List.mem_iff_getElem]
 refine ⟨_,hlen,?_⟩
 rw [e]
 congr 1
 omega
theorem znc {l:List Edg} {s:Int}:∀ x ∈ outR l s,x ∈ l:=fun x hx => List.mem_of_mem_take (List.mem_of_mem_drop hx)
theorem znp:∀ {l:List Edg} {k n:Nat},kOf l k = some n → k ≤ n ∧ ∀ x ∈ l,(0 ≤ x.1 ∧ x.1 < n) ∧ 0 ≤ x.2.2 ∧ x.2.2 < n
 | [],k,n,h => by simp only [kOf,Option.some.injEq] at h; subst h; exact ⟨Nat.le_refl _,by simp⟩
 | e :: r,k,n,h => by
  simp only [kOf] at h
  split at h
  ·rename_i hc
   obtain ⟨h1,h2⟩:=znp h
   refine ⟨by split at h1 <;> omega,fun x hx => ?_⟩
   rcases List.mem_cons.1 hx with rfl | hx
   ·split at h1 <;> omega
   ·exact h2 x hx
  ·cases h
end Go.AI
namespace Go.AI
open Go.Proofs
set_option maxRecDepth 20000
end Go.AI
namespace Go.AI
def noPl:Pl:=⟨[],[],none⟩
section
variable {c:Cx} {s:St} {k:List Item} {ops:Array Oper} {rest:List Nat} {o:Oper}
theorem zic {c:Cx} {ops:Array Oper} {O:List Heap} {n:Nat}:∀ {m:Nat} {l:List Oper} {qs:List Pl} {x:SH},zfX c ops O n (l.take m) qs x → zfX c ops O n l qs x
 | 0,l,[],x,_ => by cases l <;> trivial
 | 0,l,_ :: _,x,h => by
  rw [List.take_zero] at h
  exact h.elim
 | m + 1,[],qs,x,h => by simpa using h
 | m + 1,o :: r,[],x,_ => trivial
 | m + 1,o :: r,p :: qs,x,h => by
  rw [List.take_succ_cons] at h
  exact ⟨h.1,zic h.2⟩
end
theorem zrz {c:Cx} (hm:c.P.follows .mixedOrders = true) {id:Nat} {ops:Array Oper} {x0:St} {p:Nat} {k:List Item} {pre:List (List Nat)} (hpr:pre = zdv ops.toList []) (hpre:zkX ops pre = true) (htl:zub ops pre p = true) (hlen':p ≤ ops.size)
  (J:(Nat → Bool) → Act → World → Prop) (hJ:∀ L L' a w,(∀ k,k < ops.size → L k = L' k) → J L a w → J L' a w) (hbeg:∀ K ρ a w,Inv c.E K ρ x0 a w → J (fun _ => false) a w)
  (hstep:∀ (L:Nat → Bool),zcA ops L → ∀ i o,ops[i]? = some o → i < p → L i = false → (∀ j ∈ zbt o,L j = true) → (∀ j,j < ops.size → p ≤ j → L j = false) → ∀ a w,J L a w →
   ∀ (Q:Exit → Act → World → Prop) (next:Act → World → Prop),(∀ a' w',J (fun k => L k || Nat.beq k i) a' w' → next a' w') → wpOp c.P ops Q i next a w)
  (hend:∀ a w,J (fun k => Nat.ble (k + 1) p) a w → wpOps c.P ops (fun e a' w' => e = .normal ∧ Ends c k a' w') (List.range' p (ops.size - p)) a w):Rch c (.code (.region id ops true) :: k) x0:=by
 subst hpr
 intro K ρ a w b cs hi hb hk
 let Q:Exit → Act → World → Prop:=fun e a' w' => e = .normal ∧ Ends c k a' w'
 have hgetD:∀ (listed:Array Bool) (i:Nat),listed.size = ops.size → i < ops.size → ∀ k,(listed.setIfInBounds i true).getD k false = (listed.getD k false || Nat.beq k i):=by
  intro listed i hsz hlt k
  by_cases hki:k = i
  ·subst hki
   simp [hsz,hlt]
  ·have:Nat.beq k i = false:=by
    cases hb:Nat.beq k i with
    | false => rfl
    | true => exact absurd (Nat.eq_of_beq_eq_true hb) hki
   rw [this,Bool.or_false,getD_set_ne false (Ne.symm hki)]
 have hcntlt:∀ (listed:Array Bool) (i:Nat),listed.size = ops.size → i < ops.size → listed.getD i false = false → (List.range ops.size).countP (fun k => !(listed.setIfInBounds i true).getD k false) < (List.range ops.size).countP (fun k => !listed.getD k false):=by
  intro listed i hsz hlt hLi
  have e1:(fun k => !(listed.setIfInBounds i true).getD k false) = fun k => !listed.getD k false && !Nat.beq k i:=by
   funext k; rw [hgetD listed i hsz hlt]; simp
  rw [e1]
  obtain ⟨l1,l2,hl⟩:=List.append_of_mem (List.mem_range.2 hlt)
  rw [hl]
  simp only [List.countP_append,List.countP_cons]
  have m1:l1.countP (fun k => !listed.getD k false && !Nat.beq k i) ≤ l1.countP (fun k => !listed.getD k false):=List.countP_mono_left fun x _ hx => by simp only [Bool.and_eq_true] at hx; exact hx.1
  have m2:l2.countP (fun k => !listed.getD k false && !Nat.beq k i) ≤ l2.countP (fun k => !listed.getD k false):=List.countP_mono_left fun x _ hx => by simp only [Bool.and_eq_true] at hx; exact hx.1
  have e2:(!listed.getD i false) = true:=by rw [hLi]; rfl
  have e3:Nat.beq i i = true:=Nat.beq_refl i
  rw [if_pos e2,if_neg (by rw [e3]; simp)]
  omega
 have hready:∀ (listed:Array Bool),listed.size = ops.size → ∀ i,i < ops.size → listed.getD i false = false → (∀ o,ops[i]? = some o → ∀ j ∈ zbt o,listed.getD j false = true) → i ∈ Region.ready .any ops listed:=by
  intro listed hsz i hlt hLi hbe
  rw [mem_ready]
  obtain ⟨o,ho⟩:∃ o,ops[i]? = some o:=⟨ops[i],by rw [Array.getElem?_eq_getElem]⟩
  refine ⟨?_,o,ho,fun e he hb1 => hbe o ho e.on (zdb.2 ⟨e,he,hb1,rfl⟩)⟩
  simp only [Array.getD_eq_getD_getElem?] at hLi ⊢
  rw [Array.getElem?_eq_getElem (by omega)] at hLi ⊢
  simpa using hLi
 have hfromReady:∀ (listed:Array Bool),listed.size = ops.size → ∀ i ∈ Region.ready .any ops listed,∃ o,ops[i]? = some o ∧ i < ops.size ∧ listed.getD i false = false ∧ ∀ j ∈ zbt o,listed.getD j false = true:=by
  intro listed hsz i hi
  obtain ⟨h1,o,ho,hbe⟩:=mem_ready.1 hi
  have hlt:i < ops.size:=(Array.getElem?_eq_some_iff.1 ho).1
  refine ⟨o,ho,hlt,?_,fun j hj => ?_⟩
  ·simp only [Array.getD_eq_getD_getElem?] at h1 ⊢
   rw [Array.getElem?_eq_getElem (by omega)] at h1 ⊢
   simpa using h1
  ·obtain ⟨e,he,hb1,rfl⟩:=zdb.1 hj
   exact hbe e he hb1
 have hclose:∀ (listed:Array Bool) (i:Nat) (o:Oper),listed.size = ops.size → ops[i]? = some o → i < ops.size → (∀ j ∈ zbt o,listed.getD j false = true) → zcA ops (fun k => listed.getD k false) → zcA ops (fun k => (listed.setIfInBounds i true).getD k false):=by
  intro listed i o hsz ho hlt hbef hc k ok hok2 hk2 j hj
  have hk2:(listed.setIfInBounds i true).getD k false = true:=hk2
  show (listed.setIfInBounds i true).getD j false = true
  rw [hgetD listed i hsz hlt] at hk2 ⊢
  simp only [Bool.or_eq_true] at hk2
  rcases hk2 with hk2 | hk2
  ·have hcj:listed.getD j false = true:=hc k ok hok2 hk2 j hj
   rw [hcj]; rfl
  ·have:=Nat.eq_of_beq_eq_true hk2
   subst this
   rw [ho] at hok2
   simp only [Option.some.injEq] at hok2
   subst hok2
   rw [hbef j hj]; rfl
 have htail:∀ (listed:Array Bool) (i:Nat) (o:Oper),ops[i]? = some o → p ≤ i → zcA ops (fun k => listed.getD k false) → (∀ j ∈ zbt o,listed.getD j false = true) → ∀ j,j < i → listed.getD j false = true:=by
  intro listed i o ho hge hc hbef j hj
  have hlt:i < ops.size:=(Array.getElem?_eq_some_iff.1 ho).1
  have h1:=zbL htl i hlt
  simp only [Bool.or_eq_true] at h1
  rcases h1 with h1 | h1
  ·have:=Nat.le_of_ble_eq_true h1; omega
  ·exact (zc9 hpre hc (i + 1) i o (by omega) ho hbef j (zce.1 (zbL h1 j hj))).1
 -- the tail
 have tail:∀ (fuel m:Nat) (listed:Array Bool) (a:Act) (w:World),listed.size = ops.size → p ≤ m → m ≤ ops.size → ops.size - m ≤ fuel → (∀ j,j < ops.size → listed.getD j false = Nat.ble (j + 1) m) → zcA ops (fun k => listed.getD k false) →
   wpOps c.P ops Q (List.range' m (ops.size - m)) a w → wpAny c.P .any ops Q fuel listed a w:=by
  intro fuel
  induction fuel with
  | zero =>
   intro m listed a w hsz hm1 hm2 hf hl hc hw
   have:ops.size - m = 0:=by omega
   rw [this] at hw
   refine ⟨?_,hw⟩
   cases hr:Region.ready .any ops listed with
   | nil => rfl
   | cons i r =>
    obtain ⟨o,ho,hlt,hLi,_⟩:=hfromReady listed hsz i (by rw [hr]; simp)
    rw [hl i hlt,Nat.ble_eq_true_of_le (by omega)] at hLi
    cases hLi
  | succ fuel ih =>
   intro m listed a w hsz hm1 hm2 hf hl hc hw
   refine ⟨fun hr => ?_,fun i hi => ?_⟩
   ·by_cases hms:m = ops.size
    ·have:ops.size - m = 0:=by omega
     rw [this] at hw
     exact hw
    ·exfalso
     have hmlt:m < ops.size:=by omega
     have:m ∈ Region.ready .any ops listed:=by
      refine hready listed hsz m hmlt ?_ fun o ho j hj => ?_
      ·rw [hl m hmlt]
       cases hb:Nat.ble (m + 1) m with
       | false => rfl
       | true => have:=Nat.le_of_ble_eq_true hb; omega
      ·have hjm:=(zjB hpre m o ho).1 j hj
       rw [hl j (by omega)]
       exact Nat.ble_eq_true_of_le hjm
     rw [hr] at this; cases this
   ·obtain ⟨o,ho,hlt,hLi,hbef⟩:=hfromReady listed hsz i hi
    have him:m ≤ i:=by
     rw [hl i hlt] at hLi
     apply Nat.le_of_not_lt
     intro h
     rw [Nat.ble_eq_true_of_le h] at hLi; cases hLi
    have:i = m:=by
     apply Classical.byContradiction
     intro hne
     have:=htail listed i o ho (by omega) hc hbef m (by omega)
     rw [hl m (by omega)] at this
     have:=Nat.le_of_ble_eq_true this
     omega
    subst this
    rw [show ops.size - i = (ops.size - (i + 1)) + 1 by omega,List.range'_succ,wpOps_cons] at hw
    refine wpOp_mono (fun a w h => ?_) hw
    refine ih (i + 1) _ a w (by simpa using hsz) (by omega) (by omega) (by omega) (fun j hj => ?_) (hclose listed i o hsz ho hlt hbef hc) h
    rw [hgetD listed i hsz hlt,hl j hj]
    by_cases hji:j = i
    ·subst hji
     rw [Nat.beq_refl,Bool.or_true]
     exact (Nat.ble_eq_true_of_le (Nat.le_refl _)).symm
    ·have hbn:Nat.beq j i = false:=by
      cases hb:Nat.beq j i with
      | false => rfl
      | true => exact absurd (Nat.eq_of_beq_eq_true hb) hji
     rw [hbn,Bool.or_false]
     by_cases hji2:j + 1 ≤ i
     ·rw [Nat.ble_eq_true_of_le hji2,Nat.ble_eq_true_of_le (by omega)]
     ·have e1:Nat.ble (j + 1) i = false:=by
       cases hb:Nat.ble (j + 1) i with
       | false => rfl
       | true => exact absurd (Nat.le_of_ble_eq_true hb) hji2
      have e2:Nat.ble (j + 1) (i + 1) = false:=by
       cases hb:Nat.ble (j + 1) (i + 1) with
       | false => rfl
       | true => have:=Nat.le_of_ble_eq_true hb; omega
      rw [e1,e2]
 have hclosedlt:∀ (listed:Array Bool),zcA ops (fun k => listed.getD k false) → (∃ j,j < p ∧ listed.getD j false = false) → ∀ i,i < ops.size → p ≤ i → listed.getD i false = false:=by
  intro listed hc ⟨j,hj,hjf⟩ i hi hge
  cases hLi:listed.getD i false with
  | false => rfl
  | true =>
   obtain ⟨o,ho⟩:∃ o,ops[i]? = some o:=⟨ops[i],by rw [Array.getElem?_eq_getElem]⟩
   have:=htail listed i o ho hge hc (fun k hk => hc i o ho hLi k hk) j (by omega)
   rw [hjf] at this; cases this
 have key:∀ (fuel:Nat) (listed:Array Bool) (a:Act) (w:World),listed.size = ops.size → (List.range ops.size).countP (fun k => !listed.getD k false) ≤ fuel → zcA ops (fun k => listed.getD k false) →
   (∀ i,i < ops.size → p ≤ i → listed.getD i false = false) → J (fun k => listed.getD k false) a w → wpAny c.P .any ops Q fuel listed a w:=by
  intro fuel
  induction fuel with
  | zero =>
   intro listed a w hsz hcnt hc hno hinv
   have hl:∀ i,i < ops.size → listed.getD i false = true:=by
    have h0:=List.countP_eq_zero.1 (Nat.le_zero.1 hcnt)
    intro i hi
    have:=h0 i (List.mem_range.2 hi)
    simpa using this
   have hps:p = ops.size:=by
    apply Classical.byContradiction
    intro hne
    have h1:=hno p (by omega) (Nat.le_refl _)
    rw [hl _ (by omega)] at h1; cases h1
   refine tail 0 ops.size listed a w hsz (by omega) (Nat.le_refl _) (by omega) (fun j hj => ?_) hc ?_
   ·rw [hl j hj,Nat.ble_eq_true_of_le (by omega)]
   ·rw [Nat.sub_self]
    have:=hend a w (hJ _ _ a w (fun k hk => by rw [hl k hk,Nat.ble_eq_true_of_le (by omega)]) hinv)
    rw [hps,Nat.sub_self] at this
    exact this
  | succ fuel ih =>
   intro listed a w hsz hcnt hc hno hinv
   by_cases hall:∀ j,j < p → listed.getD j false = true
   ·
    have hl:∀ j,j < ops.size → listed.getD j false = Nat.ble (j + 1) p:=by
     intro j hj
     by_cases hjl:j < p
     ·rw [hall j hjl,Nat.ble_eq_true_of_le hjl]
     ·rw [hno j hj (by omega)]
      cases hb:Nat.ble (j + 1) p with
      | false => rfl
      | true => have:=Nat.le_of_ble_eq_true hb; omega
    refine tail (fuel + 1) p listed a w hsz (Nat.le_refl _) hlen' ?_ hl hc ?_
    ·refine Nat.le_trans ?_ hcnt
     have e:(List.range ops.size) = List.range p ++ (List.range' p (ops.size - p)):=by
      have h:=List.range'_append_1 (s:=0) (m:=p) (n:=ops.size - p)
      rw [Nat.zero_add,Nat.add_sub_cancel' hlen'] at h
      rw [List.range_eq_range',List.range_eq_range',h]
     rw [e,List.countP_append]
     have:(List.range' p (ops.size - p)).countP (fun k => !listed.getD k false) = (List.range' p (ops.size - p)).length:=by
      rw [List.countP_eq_length]
      intro k hk
      rw [List.mem_range'_1] at hk
      rw [hno k (by omega) hk.1]; rfl
     rw [this,List.length_range']
     omega
    ·exact hend a w (hJ _ _ a w (fun k hk => hl k hk) hinv)
   ·have hex:∃ j,j < p ∧ listed.getD j false = false:=by
     apply Classical.byContradiction
     intro hne
     apply hall
     intro j hj
     cases hb:listed.getD j false with
     | true => rfl
     | false => exact absurd ⟨j,hj,hb⟩ hne
    refine ⟨fun hr => ?_,fun i hi => ?_⟩
    ·
     exfalso
     obtain ⟨j,hj,hjf⟩:=hex
     have:∀ m i,i < m → i < ops.size → listed.getD i false = true:=by
      intro m
      induction m with
      | zero => intro i h; omega
      | succ m ih =>
       intro i hi1 hi2
       cases hcc:listed.getD i false with
       | true => rfl
       | false =>
        exfalso
        have:i ∈ Region.ready .any ops listed:=hready listed hsz i hi2 hcc fun o ho k hk => by
         have:=(zjB hpre i o ho).1 k hk
         exact ih k (by omega) (by omega)
        rw [hr] at this; cases this
     rw [this (j + 1) j (by omega) (by omega)] at hjf
     cases hjf
    ·obtain ⟨o,ho,hlt,hLi,hbef⟩:=hfromReady listed hsz i hi
     have hil:i < p:=by
      apply Nat.lt_of_not_le
      intro hge
      obtain ⟨j,hj,hjf⟩:=hex
      rw [htail listed i o ho hge hc hbef j (by omega)] at hjf
      cases hjf
     refine hstep (fun k => listed.getD k false) hc i o ho hil hLi hbef hno a w hinv Q _ fun a' w' hinv' => ?_
     refine ih _ _ _ (by simpa using hsz) ?_ (hclose listed i o hsz ho hlt hbef hc) (fun k hk1 hk2 => ?_) ?_
     ·have:=hcntlt listed i hsz hlt hLi
      omega
     ·rw [hgetD listed i hsz hlt,hno k hk1 hk2,Bool.false_or]
      cases hb:Nat.beq k i with
      | false => rfl
      | true => have:=Nat.eq_of_beq_eq_true hb; omega
     ·exact hJ _ _ a' w' (fun k _ => (hgetD listed i hsz hlt k).symm) hinv'
 have hrep:∀ k,(Array.replicate ops.size false).getD k false = false:=by
  intro k
  simp only [Array.getD_eq_getD_getElem?,Array.getElem?_replicate]
  split <;> rfl
 obtain ⟨e,a',w',⟨rfl,hq⟩,harr⟩:=wp_region_any (id:=id) hm (key ops.size _ a { w with drawn:=w.drawn + 1 } (by simp) (by
  refine Nat.le_trans (List.countP_le_length ..) ?_
  simp) (fun i o _ h => by
   have h:(Array.replicate ops.size false).getD i false = true:=h
   rw [hrep] at h
   cases h) (fun i _ _ => hrep i) (hJ _ _ _ _ (fun k _ => (hrep k).symm) (hbeg K ρ _ _ (znr hi _)))) b k cs
 obtain ⟨v,w'',fr,hp,hst,h3⟩:=hq b cs hb hk
 exact ⟨v,w'',fr,hp,Steps.trans harr hst,h3⟩
structure Base (E0 E:Env) (O:List Heap):Prop where
 K:E0.K0.le E.K0
 ρ:∀ d,E.ρ0 d = E0.ρ0 d
 pr:∀ b,E0.pr b → E.pr b
 new:∀ b o x,E.K0 b o = some x → E0.K0 b o = some x ∨ ¬ E0.pr b
 size:E0.w0.heap.size ≤ E.w0.heap.size
 old:∀ b,E0.pr b → (∀ dep nm ob,zab O dep nm = some ob → zaC (E0.ρ0 dep nm) ob → (E0.ρ0 dep nm).block ≠ b) → E.w0.heap[b]? = E0.w0.heap[b]?
 rest:E.w0.tape = E0.w0.tape ∧ E.w0.os = E0.w0.os ∧ E.w0.output = E0.w0.output
section
variable {E0 E:Env} {K:Kn} {ρ:Nat → Nat → Loc} {H:Heap} {O:List Heap} {w:World}
end
inductive RowOf (E0 E:Env) (O:List Heap) (ty es:Nat):Value → List (List I) → Prop
 | nil:RowOf E0 E O ty es (.slice none 0 0) []
 | row {b n cap:Nat} {c:Array Value} {xs:List (List I)} (hn:xs.length = n) (hd:∀ d ∈ xs,d.length = es) (hp:E.pr b) (hp0:¬ E0.pr b)
   (ho:∀ dep nm ob,zab O dep nm = some ob → zaC (E0.ρ0 dep nm) ob → (E0.ρ0 dep nm).block ≠ b)
   (hc:E.w0.heap[b]? = some (.cells c ty (0,0))) (hs:c.size = cap * es) (hcap:n ≤ cap) (hm:cap ≤ maxLen) (hr:RepL E.K0 (c.toList.take (n * es)) xs.flatten)
   (hk:∀ o,o < n * es → E.K0 b o = c[o]?) (hk':∀ o,n * es ≤ o → E.K0 b o = none):RowOf E0 E O ty es (.slice (some ⟨b,0,none⟩) n cap) xs
structure RowsO (E0 E:Env) (O:List Heap) (ty es:Nat) (vs:List Value) (xss:List (List (List I))):Prop where
 base:Base E0 E O
 len:vs.length = xss.length
 row:∀ (j:Nat) v xs,vs[j]? = some v → xss[j]? = some xs → RowOf E0 E O ty es v xs
 apart:∀ (i j:Nat) v v' b,i ≠ j → vs[i]? = some v → vs[j]? = some v' → v.ownBlock = some b → v'.ownBlock ≠ some b
section
variable {P:Program} {K:Kn} {w:World}
end
section
variable {P:Program} {E0 E:Env} {K:Kn} {ρ:Nat → Nat → Loc} {s:St} {a:Act} {w:World} {H:Heap} {O:List Heap} {ty es:Nat} {vs:List Value} {xss:List (List (List I))}
open Classical in
noncomputable def plusK (K:Kn) (b m:Nat) (c:Array Value):Kn:=fun b' o => if b' = b ∧ o < m then c[o]? else K b' o
end
section
variable {E0 E:Env} {K:Kn} {ρ:Nat → Nat → Loc} {H:Heap} {O:List Heap} {w:World}
theorem HInv.reob {nm:Nat} {ob ob':Ob} (h:HInv E K ρ (H :: O) w) (ho:look H nm = some ob) (hs:ob'.sh = ob.sh) (hbk:zaC (ρ 0 nm) ob' → zaC (ρ 0 nm) ob)
  (hown:OwnAt K ρ (shape (H :: O)) w (ρ 0 nm) ob → OwnAt K ρ (shape (H :: O)) w (ρ 0 nm) ob'):HInv E K ρ (((nm,ob') :: H) :: O) w:=by
 have ho':zab (H :: O) 0 nm = some ob:=by simpa [zab] using ho
 have e0:(fun d n => ρ (0 + d) n) = ρ:=by funext d n; rw [Nat.zero_add]
 have h0:=h.own 0 nm _ ho'
 rw [e0,List.drop_zero] at h0
 have hsh:shape (((nm,ob') :: H) :: O) = shape (H :: O):=zba ho hs
 have hdrop:∀ d,shape ((((nm,ob') :: H) :: O).drop d) = shape ((H :: O).drop d):=by
  intro d
  cases d with
  | zero => exact hsh
  | succ d => rfl
 refine ⟨h.holds,fun d n' x e => ?_,fun d n1 o1 d' n2 o2 e1 e2 b1 b2 hbe => ?_,h.size,fun b hb hno => h.old b hb fun d n' x e => hno d n' x (by simpa [zab] using e),fun n' x e hb => ?_,h.outer,h.Kle,h.Knew,h.rest⟩
 ·rw [hdrop]
  rcases zb8 (ob:=ob) e with ⟨rfl,rfl,rfl⟩ | ⟨_,e'⟩
  ·rw [e0,List.drop_zero]; exact hown h0
  ·exact h.own _ _ _ e'
 ·have old:∀ {d n' x},zab (((nm,ob') :: H) :: O) d n' = some x → zaC (ρ d n') x → ∃ y,zab (H :: O) d n' = some y ∧ zaC (ρ d n') y:=by
   intro d n' x e hb
   rcases zb8 (ob:=ob) e with ⟨rfl,rfl,rfl⟩ | ⟨_,e'⟩
   ·exact ⟨_,ho',hbk hb⟩
   ·exact ⟨_,e',hb⟩
  obtain ⟨y1,a1,c1⟩:=old e1 b1
  obtain ⟨y2,a2,c2⟩:=old e2 b2
  exact h.inj _ _ _ _ _ _ a1 a2 c1 c2 hbe
 ·rcases zb8 (ob:=ob) e with ⟨_,rfl,rfl⟩ | ⟨_,e'⟩
  ·exact h.loc _ _ ho' (hbk hb)
  ·exact h.loc _ _ e' hb
end
section
variable {c:Cx} {s:St} {k:List Item} {ops:Array Oper} {rest:List Nat} {o:Oper} {E0:Env} {H:Heap} {O:List Heap}
end
section
variable {E:Env} {K:Kn} {ρ:Nat → Nat → Loc} {H:Heap} {O:List Heap} {w:World}
end
theorem Inv.sameX {E:Env} {K:Kn} {ρ:Nat → Nat → Loc} {O:List Heap} {n:Nat} {x y:SH} {a:Act} {w:World} (hi:Inv E K ρ (St.of O n x) a w) (h1:∀ t,look y.1 t = look x.1 t) (h2:∀ nm,look y.2 nm = look x.2 nm):Inv E K ρ (St.of O n y) a w:=by
 have hh:HInv E K ρ (x.2 :: O) w:=hi.h
 refine ⟨hh.same fun nm => h2 nm,hi.defers,hi.size,fun t d e => ?_⟩
 have hsh:shape (St.of O n y).S = shape (x.2 :: O):=zdK fun nm => h2 nm
 rw [hsh]
 have e':look y.1 t = some d:=e
 rw [h1] at e'
 exact hi.slots t d e'
end Go.AI
namespace Go.AI
open Go.Proofs
set_option maxRecDepth 20000
def idxI (x:Int):List Int → Nat → Int
 | [],_ => -1
 | y :: r,i => if x = y then i else idxI x r (i + 1)
theorem zny (x:Int):∀ (l:List Int) (i:Nat),idxI x l i ≥ 0 ↔ x ∈ l
 | [],_ => by simp [idxI]
 | y :: r,i => by
  simp only [idxI]
  by_cases h:x = y
  ·simp only [if_pos h,h]
   simp
  ·simp only [if_neg h]
   rw [zny x r (i + 1)]
   simp [h]
theorem zvb (x:Int) (l:List Int) (i:Nat):decide (idxI x l i ≥ 0) = decide (x ∈ l):=decide_eq_decide.2 (zny x l i)
theorem zu5 (O:List Heap) (l:List Int) (x:Int) (hl:l.length ≤ zao):zan Tryz.prog 152 [ints l,ii x] O (ii (idxI x l 0)) [] O:=by
 generalize hR:idxI x l 0 = R
 refine zaa Tk Tryz.func152 rfl Tryz.call152 Tryz.ntmps152 (Nat.le_of_ble_eq_true rfl) fun E => ?_
 refine zah Tk Tryz.func152 ?_
 refine zaf ?_
 refine zal (fun i:Nat => [(0,ints l),(1,ii x),(7,ii l.length),(8,ii i)]) (fun _ => []) (fun _ => O) 19
  (fun i => i ≤ l.length ∧ idxI x (l.drop i) i = R) (fun i => l.length - i) 0 ⟨Nat.zero_le _,hR⟩ ⟨rfl,rfl,rfl,rfl,trivial⟩ rfl trivial rfl rfl ?_
 rintro i ⟨hi,hno⟩ ih
 clear hR
 refine zah Tk Tryz.func152 ?_
 refine zai Tk Tryz.func152 rfl (fun g1 => ?_) (fun g1 => ?_)
 ·have h1:i < l.length:=by simpa using g1
  have gl:(l.map fun x => [vi x])[(i:Int).toNat]? = some [vi l[i]]:=zam (f:=fun x => [vi x]) h1
  have dl:l.drop i = l[i] :: l.drop (i + 1):=List.drop_eq_getElem_cons h1
  rw [dl] at hno
  simp only [idxI] at hno
  clear dl
  generalize l[i] = y at *
  refine zaj Tk Tryz.func152 (by exact ⟨by omega,by show (i:Int) < (l.length:Int); omega⟩) ?_
  refine zaq Tk Tryz.func152 (gl) ?_
  refine zai Tk Tryz.func152 rfl (fun g2 => ?_) (fun g2 => ?_)
  ·have g2:x = y:=beqT g2
   rw [if_pos g2] at hno
   subst hno
   refine zae Tk (r:=ii (i:Int)) rfl rfl rfl trivial rfl rfl ?_
   rfl
  ·have g2:x ≠ y:=beqF g2
   rw [if_neg g2] at hno
   refine zaf ?_
   exact ih (i + 1) _ _ ⟨h1,hno⟩ (by omega) ⟨rfl,rfl,rfl,congrArg ii (zaE h1 hl),trivial⟩ rfl trivial rfl rfl
 ·have h1:l.length ≤ i:=by simpa using g1
  rw [List.drop_eq_nil_of_le h1] at hno
  simp only [idxI] at hno
  subst hno
  refine zae Tk (r:=ii (-1)) rfl rfl rfl trivial rfl rfl ?_
  rfl
theorem zhb (O:List Heap) (l:List Int) (x:Int) (hl:l.length ≤ zao):zan Tryz.prog 75 [ints l,ii x] O (bb (decide (x ∈ l))) [] O:=by
 rw [← zvb x l 0]
 have h:=fun O => zu5 O l x hl
 refine zaa Tk Tryz.func75 rfl Tryz.call75 Tryz.ntmps75 (Nat.le_of_ble_eq_true rfl) fun E => ?_
 refine zah Tk Tryz.func75 ?_
 refine zag Tk Tryz.func75 (h _) rfl rfl rfl rfl rfl ?_
 refine zae Tk (r:=bb (decide (idxI x l 0 ≥ 0))) rfl rfl rfl trivial rfl rfl ?_
 rfl
end Go.AI
