/-
  The rules of a device: equation.Rules of the program.
-/
import Derived.Test.YtcikenlflcofbaaGreatDoorChk
import Derived.Test.YtcikenlflcofbaaGreatDoorCall
import Derived.Test.YtcikenlflcofbaaGreatDoorP1
set_option maxRecDepth 100000
set_option maxHeartbeats 8000000
namespace Go.Proofs.YtcikenlflcofbaaGreatDoor
open Go.RowKit
def RlC (_:World) (_:Nat→Prop) (cs:List Value) (r:Rl):Prop:=cs=[.string ⟨r.nm.toArray⟩,.string ⟨r.text.toArray⟩]∧r.nm.length≤maxLen∧r.text.length≤maxLen
theorem RlC.mono:zdH RlC:=fun _ _ _ _ _ _ _ _ h=>h
theorem rlAt {w:World} {S:Nat→Prop} {A:Option Addr} {n:Nat} {rs:List Rl} (h:Rw RlC 2 w S A n rs) {k:Nat} (hk:k<n) :
    ∃ b o r,A=some ⟨b,o,none⟩∧S b∧rs[k]? = some r∧r.nm.length≤maxLen∧r.text.length≤maxLen∧w.cell? ⟨b,o+k*2,none⟩=some (.string ⟨r.nm.toArray⟩)∧w.cell? ⟨b,o+k*2+1,none⟩=some (.string ⟨r.text.toArray⟩):=by
  obtain ⟨b,o,cs,s,e,hb,hx,_,⟨rfl,h1,h2⟩,hat⟩:=h.at_ hk;exact ⟨b,o,s,e,hb,hx,h1,h2,by simpa using hat 0 _ rfl,hat 1 _ rfl⟩
def RetRul (rs:List Rl) (ins:List Sg) (w:World) (e:Ending) (w':World):Prop:=
  ∃ v xs a er T,rulP rs ins=(xs,a,er)∧e = .returned (.tuple #[v,.int .i64 a,.int .i64 er])∧XOwn w' w.heap.size T v xs∧Below w.heap.size w w'
theorem RetRul.none {rs:List Rl} {ins:List Sg} {w w':World} {a er:Int} (h:rulP rs ins=([],a,er)) (hb:Below w.heap.size w w'):RetRul rs ins w (.returned (.tuple #[.slice Option.none 0 0,.int .i64 a,.int .i64 er])) w' :=
  ⟨_,[],a,er,_,h,rfl,XOwn.nil w' w.heap.size,hb⟩
theorem XOwn.base {w:World} {base base':Nat} {T:Nat→Prop} {v:Value} {xs:List Ex} (h:XOwn w base T v xs) (hb:base'≤base):XOwn w base' T v xs:=by
  obtain ⟨ls,h1,h2,h3,h4⟩:=h;refine ⟨ls,h1,⟨h2.1,?_⟩,h3,fun b hb'=>⟨Nat.le_trans hb (h4 b hb').1,(h4 b hb').2⟩⟩
  rcases h2.2 with q | ⟨g,cap,cur,q1,q2,q3,q4⟩
  · exact .inl q
  · exact .inr ⟨g,cap,cur,q1,Nat.le_trans hb q2,q3,q4⟩
theorem zfQ (env:List Sg) (x:Ex) (xs:List Ex) (i:Int):kndG env (x::xs) i=if (chkG env 16 x).2≠0 then some (i,(chkG env 16 x).2) else if (chkG env 16 x).1≠1 then some (i,10) else kndG env xs (i+1):=rfl
theorem zf9 (r:Rl) (rs:List Rl) (env:List Sg) (l:List Ex) (i:Int):rulG (r::rs) env l i=if zbj r.nm=false then .error (i,7)
    else if (zay env r.nm).isSome then .error (i,8)
    else if (zaw r.text).2.2≠0 then .error (i,(zaw r.text).2.2)
    else rulG rs (env++[⟨r.nm,1⟩]) (l++[(zaw r.text).1]) (i+1):=rfl
def RuR (w:World) (base mb:Nat) (rs:List Rl) (ins:List Sg) (g:Nat) (v4 v37:Value) (wr:World):Prop:=
  ∃ k env l T,k≤rs.length∧rs.length-k<g∧v37 = .int .i64 ((k:Nat):Int)∧rulG (rs.drop k) env l k=rulG rs ins [] 0∧env.length=ins.length+k∧l.length=k ∧
    KMap wr mb env.length env∧XOwn wr base T v4 l∧base≤wr.heap.size∧Below w.heap.size w wr∧∀ x∈l,zaR x=true
def KdqR (W:World) (env:List Sg) (l:List Ex) (u:Value) (g:Nat) (v4 v:Value) (wr:World):Prop:=
  ∃ k:Nat,v4=u∧k≤l.length∧l.length-k<g∧v = .int .i64 (k:Int)∧kndG env (l.drop k) k=kndG env l 0∧Below W.heap.size W wr
theorem zju (A:Option Addr) (c:Nat) (rs:List Rl) (A':Option Addr) (c':Nat) (ins:List Sg) (w:World) (hw:Lw w) (_hc:rs.length≤c) (_hm:c≤maxLen) (hr:Rw RlC 2 w (fun b=>b<w.heap.size) A rs.length rs)
    (hc':ins.length≤c') (hm':c'≤maxLen) (hr':Rw SgC 2 w (fun b=>b<w.heap.size) A' ins.length ins) :
    Calls Tryz.prog 23 #[.slice A rs.length c,.slice A' ins.length c'] w (RetRul rs ins w):=by
  have HR:=Hi hr;have HT:=Hi (zjC A' c' ins w hc' hm' hr');have HW:=Hi hw
  have HP:=Hi (show rulP rs ins=if 16<rs.length∨64<ins.length then ([],0,3) else if zbn ins=false then ([],0,1) else match rulG rs ins [] 0 with
    | .error (i,e)=>([],i,e)
    | .ok (env,l)=>match kndG env l 0 with
      | some (i,e)=>([],i,e)
      | none=>(l,0,0) from rfl)
  unfold maxLen at hm';clear hr hr' hw
  by_cases hbig:16<rs.length∨64<ins.length
  · have HE:=Hi (HP.out.trans (if_pos hbig))
    have hcs:(16:Int)<(rs.length:Int)∨¬ (16:Int)<(rs.length:Int)∧(64:Int)<(ins.length:Int):=by omega
    clear hbig
    rcases hcs with d0 | ⟨d0,d1⟩
    all_goals
      go_enter Tryz.func23,Tryz.ntmps23
      go_wp2
      exact bodyPost_ret (v := .tuple #[.slice Option.none 0 0,.int .i64 0,.int .i64 3]) (by simp [results,Tryz.results23,go_sem]) rfl (RetRul.none HE.out (Below.refl _ _))
  have d0:¬ (16:Int)<(rs.length:Int):=by omega
  have d1:¬ (64:Int)<(ins.length:Int):=by omega
  have hP2:=HP.out.trans (if_neg hbig);have HP2:=Hi hP2;have hrl:rs.length≤16:=by omega
  have hil:ins.length≤64:=by omega
  clear hP2 HP hbig;go_enter Tryz.func23,Tryz.ntmps23;go_wp2_with fail
  refine HT.out.mono ?_
  rintro e w1 ⟨hb1,⟨hg,mb,rfl,hmb,hmap⟩ | ⟨hg,rfl⟩⟩
  case inr =>
    have HE:=Hi (HP2.out.trans (if_pos hg));have HB1:=Hi hb1;clear hg hb1 HP2;go_wp2;exact bodyPost_ret (v := .tuple #[.slice Option.none 0 0,.int .i64 0,.int .i64 1]) (by simp [results,Tryz.results23,go_sem]) rfl (RetRul.none HE.out HB1.out)
  have HP3:=Hi (HP2.out.trans (if_neg (by rw [hg];decide)));have HMP:=Hi hmap;have HB1:=Hi hb1;have hmlt:=hmap.block;clear hg hmap hb1 HP2 HT;go_wp2;go_loopg [4,37] (rs.length+1) (fun g v4 v37 wr=>RuR w w1.heap.size mb rs ins g v4 v37 wr)
  case atStart=>exact ⟨0,ins,[],_,Nat.zero_le _,by omega,rfl,by rw [List.drop_zero];rfl,rfl,rfl,HMP.out,XOwn.nil _ _,Nat.le_refl _,HB1.out,fun x hx=>by cases hx⟩
  case round =>
    have hs1:=HB1.out.size;clear HMP HB1;obtain ⟨k,env,l,T,hk,hgk,rfl,hru,hel,hll,hmap,hown,hbs,hbel,hval⟩:=hrel;obtain ⟨A4,c4,rfl,hc4,hm4⟩:=hown.shape;have HEL:=Hi hel;have HLL:=Hi hll;have HOW:=Hi hown;have HMP:=Hi hmap;have HVAL:=Hi hval;have hmb4:=hmap.block;have hl16:l.length≤16:=by omega
    clear hel hll hown hmap hval
    by_cases hlt:k<rs.length
    case neg =>
      obtain rfl:k=rs.length:=by omega
      rw [List.drop_length] at hru;have hP4:=HP3.out;rw [← hru] at hP4;have HP4:=Hi (show rulP rs ins=match kndG env l 0 with | some (i,e)=>([],i,e) | none=>(l,0,0) from hP4);have HB:=Hi hbel;clear hru hP4 HP3 hlt hbel;go_wp2;go_loopg [4,77] (l.length+1) (fun g v4 v wq=>KdqR wr env l (.slice A4 l.length c4) g v4 v wq)
      case atStart=>exact ⟨0,rfl,Nat.zero_le _,by omega,rfl,by rw [List.drop_zero];rfl,Below.refl _ _⟩
      case round =>
        rename World=>wq
        obtain ⟨j,rfl,hj,hgj,rfl,hkn,hbq⟩:=hrel;have HBQ:=Hi (zac HB.out hbq HB.out.size);have HOQ:=Hi (HOW.out.below hbq (Nat.le_refl _));have HMQ:=Hi (HMP.out.below hbq hmb4)
        by_cases hjl:j<l.length
        case neg =>
          obtain rfl:j=l.length:=by omega
          rw [List.drop_length] at hkn;have hP5:=HP4.out;rw [← hkn] at hP5;have HP5:=Hi (show rulP rs ins=(l,0,0) from hP5);clear hkn hP5 HP4 hbq hjl;go_wp2;exact bodyPost_ret (v := .tuple #[.slice A4 l.length c4,.int .i64 0,.int .i64 0]) (by simp [results,Tryz.results23,go_sem]) rfl ⟨_,l,0,0,T,HP5.out,rfl,HOQ.out.base hs1,HBQ.out⟩
        obtain ⟨b,o,op,m,nm,A5,c5,ys,hA,hSb,hx,hyc,hym,hyp,hyr,hxb⟩:=exAt (HOQ.out.rw (S:=fun b=>b<wq.heap.size) rfl fun b _ h=>h) hjl;subst hA
        have hget:l[j] = .mk op m nm ys:=by
          rw [List.getElem?_eq_getElem hjl] at hx;injection hx
        rw [List.drop_eq_getElem_cons hjl,hget] at hkn;rw [zfQ] at hkn;have hv:=HVAL.out _ (List.mem_of_getElem? hx);obtain ⟨e0,e1,e2,e3⟩:=hxb;have hbw:=zaa wq (Obj.cells #[.int .i64 op,.int .i64 m,.string ⟨nm.toArray⟩,.slice A5 ys.length c5] 48);have hX:=XV.new wq op m nm A5 ys.length c5;have C3:=zfs 16 op m nm A5 c5 ys (wq.alloc (Obj.cells #[.int .i64 op,.int .i64 m,.string ⟨nm.toArray⟩,.slice A5 ys.length c5] 48)) mb env.length env (zfm hv) hyc hym hyp (hyr.mono ExV.mono (fun b q=>Nat.lt_of_lt_of_le q hbw.size) (zab hbw fun b q=>q)) (HMQ.out.alloc _);unfold exV at C3;have HC3:=Hi C3;have HBW:=Hi (zac HBQ.out hbw HBQ.out.size);have HBW2:=Hi (zac hbq hbw hbq.size);have HKN:=Hi hkn;obtain ⟨x0,x1,x2,x3,-,-,-,-⟩:=hX.cells;clear hkn hx hget hv hbw C3 hX hbq hyr;generalize hq:chkG env 16 (.mk op m nm ys)=q at *;obtain ⟨q1,q2⟩:=q;dsimp only at HKN HC3;clear hq;go_wp2_with fail
        refine HC3.out.mono ?_
        rintro e w3 ⟨rfl,hb3⟩
        have HB3:=Hi (zac HBW.out hb3 HBW.out.size);have HB4:=Hi (zac HBW2.out hb3 HBW2.out.size);clear hb3 HC3;dsimp only;have hkn:=HKN.out;have hP5:=HP4.out
        by_cases h2:q2=0
        case neg =>
          rw [if_pos h2] at hkn;rw [← hkn] at hP5;have HP5:=Hi (show rulP rs ins=([],(j:Int),q2) from hP5);have k2:(q2 != 0)=true:=by simp [h2]
          clear hkn hP5 HP4 HKN h2;go_wp2;exact bodyPost_ret (v := .tuple #[.slice Option.none 0 0,.int .i64 (j:Int),.int .i64 q2]) (by simp [results,Tryz.results23,go_sem]) rfl (RetRul.none HP5.out HB3.out)
        rw [if_neg (by simp [h2])] at hkn;have k2:(q2 != 0)=false:=by simp [h2]
        by_cases h1:q1=1
        case neg =>
          rw [if_pos h1] at hkn;rw [← hkn] at hP5;have HP5:=Hi (show rulP rs ins=([],(j:Int),10) from hP5);have k1:(q1 != 1)=true:=by simp [h1]
          clear hkn hP5 HP4 HKN h1 h2;go_wp2;exact bodyPost_ret (v := .tuple #[.slice Option.none 0 0,.int .i64 (j:Int),.int .i64 10]) (by simp [results,Tryz.results23,go_sem]) rfl (RetRul.none HP5.out HB3.out)
        rw [if_neg (by simp [h1])] at hkn;have k1:(q1 != 1)=false:=by simp [h1]
        have HKN2:=Hi hkn;clear hkn hP5 HKN h1 h2;go_wp2;go_roundg (l.length-j)
        case measure=>omega
        case rel=>exact ⟨j+1,rfl,by omega,by omega,by go_num,HKN2.out,HB4.out⟩
    obtain ⟨b,o,r,hA,hSb,hx,hxl,htl,y0,y1⟩:=rlAt (HR.out.mono RlC.mono (fun _ q=>q) (zab hbel fun _ q=>q)) hlt;subst hA
    have hget:rs[k]=r:=by
      rw [List.getElem?_eq_getElem hlt] at hx;injection hx
    rw [List.drop_eq_getElem_cons hlt,hget] at hru;rw [zf9] at hru;obtain ⟨nm,tx⟩:=r;dsimp only at hxl htl y0 y1 hru;have hbk:b<wr.heap.size:=Nat.lt_of_lt_of_le hSb hbel.size;have hbx:=zaa wr (Obj.cells #[.string ⟨nm.toArray⟩,.string ⟨tx.toArray⟩] 46);have hml:=HMP.out.alloc (Obj.cells #[.string ⟨nm.toArray⟩,.string ⟨tx.toArray⟩] 46);have hsz:(⟨nm.toArray⟩:ByteArray).size≤maxLen:=by simpa [ByteArray.size] using hxl
    have HN:=Hi (fun W=>zdS nm W hxl);have hlk:=hml.look (t := 68) Tryz.underlying9 Tryz.underlying68 (zdB _) hsz true;rw [ziM] at hlk;have HBX:=Hi hbx;have HB:=Hi (zac hbel hbx hbel.size);have HML:=Hi hml;have HRU:=Hi hru;have hP4:=HP3.out;have hnew:(wr.alloc (Obj.cells #[.string ⟨nm.toArray⟩,.string ⟨tx.toArray⟩] 46)).heap[wr.heap.size]? = some (.cells #[.string ⟨nm.toArray⟩,.string ⟨tx.toArray⟩] 46 (0,0)):=heap_alloc_new wr _;have HNEW:=Hi hnew;clear hbx hml hru hx hget hbel hnew;generalize hnb:zbj nm=nb at *;clear hnb
    cases nb with
    | false =>
      have hru:=HRU.out;rw [if_pos rfl] at hru;rw [← hru] at hP4;have HP5:=Hi (show rulP rs ins=([],(k:Int),7) from hP4);clear hru hP4 HP3 HRU hlk;go_wp2_with fail
      refine (HN.out _).mono ?_
      rintro e w5 ⟨rfl,rfl⟩
      go_wp2;exact bodyPost_ret (v := .tuple #[.slice Option.none 0 0,.int .i64 (k:Int),.int .i64 7]) (by simp [results,Tryz.results23,go_sem]) rfl (RetRul.none HP5.out HB.out)
    | true =>
    have hru:=HRU.out;rw [if_neg (show ¬ (true=false) from by decide)] at hru
    cases hko:zay env nm with
    | some v =>
      rw [hko,if_pos (show (some v).isSome=true from rfl)] at hru;rw [← hru] at hP4;have HP5:=Hi (show rulP rs ins=([],(k:Int),8) from hP4);rw [hko] at hlk;simp only [if_true,Option.map_some,Option.getD_some,Option.isSome_some] at hlk;clear hru hP4 HP3 HRU hko;go_wp2_with fail
      refine (HN.out _).mono ?_
      rintro e w5 ⟨rfl,rfl⟩
      go_wp2;exact bodyPost_ret (v := .tuple #[.slice Option.none 0 0,.int .i64 (k:Int),.int .i64 8]) (by simp [results,Tryz.results23,go_sem]) rfl (RetRul.none HP5.out HB.out)
    | none =>
    rw [hko,if_neg (show ¬ ((Option.none:Option Int).isSome=true) from by decide)] at hru;rw [hko] at hlk;simp only [if_true,Option.map_none,Option.getD_none,Option.isSome_none] at hlk;have HKO:=Hi hko;have HC:=Hi (zif tx _ htl (HW.out.below HB.out));have HVP:=Hi (fun h=>za6 (t:=tx) h);generalize zaw tx=r at *;obtain ⟨x,a,er⟩:=r;dsimp only at HC HVP hru;have HRU2:=Hi hru;clear hru hko HRU;go_wp2_with fail
    refine (HN.out _).mono ?_
    rintro e w5 ⟨rfl,rfl⟩
    go_wp2_with fail
    refine HC.out.mono ?_
    rintro e w2 ⟨op,n,nm2,A2,c2,ks,hx2,rfl,hc2,hm2,hp2,hr2,hb2⟩
    try unfold exV
    subst hx2;have hs2:=hb2.size;rw [World.size_alloc] at hs2;have hbx2:=zaa w2 (Obj.cells #[.int .i64 op,.int .i64 n,.string ⟨nm2.toArray⟩,.slice A2 ks.length c2] 48);have HB2:=Hi (zac HB.out (zac hb2 hbx2 hb2.size) HB.out.size);have hru:=HRU2.out
    by_cases he:er=0
    case neg =>
      rw [if_pos he] at hru;rw [← hru] at hP4;have HP5:=Hi (show rulP rs ins=([],(k:Int),er) from hP4);have k2:(er != 0)=true:=by simp [he]
      clear hru hP4 HP3 HRU2 he hlk;go_wp2;exact bodyPost_ret (v := .tuple #[.slice Option.none 0 0,.int .i64 (k:Int),.int .i64 er]) (by simp [results,Tryz.results23,go_sem]) rfl (RetRul.none HP5.out HB2.out)
    rw [if_neg (by simp [he])] at hru;have k2:(er != 0)=false:=by simp [he]
    have HVX:=Hi (HVP.out he);have HRU3:=Hi hru;clear hru HRU2 he hP4 hlk HVP
    -- the map's turn
    have hm5:=(HML.out.below hb2 (by rw [World.size_alloc];omega)).alloc (Obj.cells #[.int .i64 op,.int .i64 n,.string ⟨nm2.toArray⟩,.slice A2 ks.length c2] 48);obtain ⟨w3,hup,hm6,hg3⟩:=hm5.store (t := 68) Tryz.underlying9 Tryz.underlying68 (by have:=HEL.out;unfold maxLen;omega) hsz (plainElem_int Tryz.underlying3 (a:=1) (by decide));rw [← ziN env ⟨nm,1⟩ HKO.out] at hm6;have HM6:=Hi hm6;have HG3:=Hi hg3
    have hnm2:(w2.alloc (Obj.cells #[.int .i64 op,.int .i64 n,.string ⟨nm2.toArray⟩,.slice A2 ks.length c2] 48)).cell? ⟨wr.heap.size,0,none⟩=some (.string ⟨nm.toArray⟩):=by
      have h1:=(zac hb2 hbx2 hb2.size).block wr.heap.size (by rw [World.size_alloc];omega);rw [cell_of_row _ _ 0 _ _ (0,0) (h1.trans HNEW.out)]
      rfl
    have hX3:=(XV.new w2 op n nm2 A2 ks.length c2).grown hg3 (by intro q;injection q;omega);obtain ⟨x0,x1,x2,x3,-,-,-,-⟩:=hX3.cells;have hx3l:=hX3.lt;have hs3:=hg3.size;rw [World.size_alloc] at hs3
    -- the row of expressions
    have hO2:=((HOW.out.below HBX.out (Nat.le_refl _)).below hb2 (Nat.le_refl _)).below hbx2 (Nat.le_refl _);have hO3:=hO2.grown hg3 hmlt;obtain ⟨ls,hls,hown5,hvs5,hT5⟩:=hO3;have HNB:=Hi (show ∀ g,(Value.slice A4 l.length c4).ownBlock=some g→w1.heap.size≤g∧g<wr.heap.size from fun g hg=>HOW.out.lt hg);have HB3:=Hi (HB2.out.grown hg3 (by have:=HB2.out.size;exact this) (fun j hj=>by cases hj;exact hmb));have HR2:=Hi (hr2.mono ExV.mono (fun b q=>q) ((zab (S:=New (wr.alloc (Obj.cells #[.string ⟨nm.toArray⟩,.string ⟨tx.toArray⟩] 46)) w2) hbx2 fun b q=>q.2).trans (zah hg3 fun b q=>⟨by have:=q.2;rw [World.size_alloc];omega,fun e=>by have:=q.1;rw [World.size_alloc] at this;injection e;omega⟩)));have HLS:=Hi hls;have HOW5:=Hi (hown5.alloc (Obj.cells #[.int .i64 op,.int .i64 n,.string ⟨nm2.toArray⟩,.slice A2 ks.length c2] 48));have HV5:=Hi hvs5;have HT5:=Hi hT5;have HSR:=Hi (zaL w3 [.int .i64 op,.int .i64 n,.string ⟨nm2.toArray⟩,.slice A2 ks.length c2] 48 4 1 rfl);have HBS:=Hi (show w1.heap.size≤(w3.alloc (Obj.cells #[.int .i64 op,.int .i64 n,.string ⟨nm2.toArray⟩,.slice A2 ks.length c2] 48)).heap.size by rw [World.size_alloc];omega);have HM1:=Hi (show l.length+1≤maxLen by unfold maxLen;omega);have HM2:=Hi (show (l.length+1)*56≤140737488355328 by omega);obtain ⟨ti,hti,hzi⟩:=Option.map_eq_some_iff.1 zhy;obtain ⟨hz0,hz1,hz2⟩:ti.zero=some (.agg #[.int .i64 0,.int .i64 0,.string ⟨#[]⟩,.slice Option.none 0 0])∧ti.size=4∧ti.bytes=56:=by simpa using hzi
    have HTI:=Hi (And.intro hti (And.intro hz0 (And.intro hz1 hz2)));have HBX2:=Hi hbx2;clear hti hzi hz0 hz1 hz2 hls hown5 hvs5 hT5 hr2 hb2 hbx2 hm5 hm6 hg3 hX3 hO2 HC HML HNEW HBX;go_wp2_with (at_builtin;refine zaj (o:=⟨some 73,_,_,_,_,_⟩) (w:=w3.alloc (Obj.cells #[.int .i64 op,.int .i64 n,.string ⟨nm2.toArray⟩,.slice A2 ks.length c2] 48)) _ _ 27 rfl rfl Tryz.underlying27 HTI.out.1 HTI.out.2.1 HTI.out.2.2.1 HTI.out.2.2.2 rfl (by decide) rfl HOW5.out rfl HSR.out (zeN ⟨op,n,nm2,A2,ks.length,c2⟩) HM1.out HM2.out HBS.out ?_;intro v6 w6 hown6 hg6 hv6)
    all_goals
      obtain ⟨A6,c6,hv6e,hc6,hm6⟩:=zag hown6;subst hv6e;have HOW6:=Hi hown6;have HG6:=Hi (show (w3.alloc (Obj.cells #[.int .i64 op,.int .i64 n,.string ⟨nm2.toArray⟩,.slice A2 ks.length c2] 48)).grownBy w6 (Value.slice A4 l.length c4).ownBlock from hg6);have HV6:=Hi (show (Value.slice A6 (l.length+1) c6).ownBlock=(Value.slice A4 l.length c4).ownBlock∨(Value.slice A6 (l.length+1) c6).ownBlock=some (w3.alloc (Obj.cells #[.int .i64 op,.int .i64 n,.string ⟨nm2.toArray⟩,.slice A2 ks.length c2] 48)).heap.size from hv6);have hN6:∀ q,some q=(Value.slice A4 l.length c4).ownBlock→w1.heap.size≤q∧q<wr.heap.size:=fun q hq=>HNB.out q hq.symm
      clear hown6 hg6 hv6;go_roundg (rs.length-k)
      case measure=>omega
      case rel =>
        have hs6:=HG6.out.size;rw [World.size_alloc] at hs6;have kb:=zab (S:=fun b=>b<w3.heap.size) (zaa w3 (Obj.cells #[.int .i64 op,.int .i64 n,.string ⟨nm2.toArray⟩,.slice A2 ks.length c2] 48)) (fun b hb=>hb)
        have hO6:=XOwn.push (T:=fun b=>T b∨New (wr.alloc (Obj.cells #[.string ⟨nm.toArray⟩,.string ⟨tx.toArray⟩] 46)) w2 b) (xs:=l) (l:=⟨op,n,nm2,A2,ks.length,c2⟩) (y := .mk op n nm2 ks) HLS.out
          (fun k l x hl hx=>ExV.mono _ _ _ _ _ _ (fun b hb => .inl hb) (kb.mono fun b hb=>(HT5.out b hb).2.1) (HV5.out k l x hl hx))
          (fun b hb=>by
            rcases hb with hb | hb
            · have:=HT5.out b hb
              exact ⟨this.1,by rw [World.size_alloc];omega,this.2.2⟩
            · have h1:=hb.1
              have h2:=hb.2
              rw [World.size_alloc] at h1
              refine ⟨by omega,by rw [World.size_alloc];omega,fun q => ?_⟩
              have:=(hN6 _ q).2
              omega)
          (ExV.mono _ _ _ _ _ _ (fun b hb => .inr hb) (kb.mono fun b hb=>by have:=hb.2;omega) (ExV.mk hc2 hm2 hp2 HR2.out)) HOW6.out HG6.out HV6.out
        have hbq:=HB3.out.alloc (by have:=HB3.out.size;exact this) (Obj.cells #[.int .i64 op,.int .i64 n,.string ⟨nm2.toArray⟩,.slice A2 ks.length c2] 48);refine ⟨k+1,env++[⟨nm,1⟩],l++[.mk op n nm2 ks],_,by omega,by omega,by go_num,HRU3.out,by have:=HEL.out;simp only [List.length_append,List.length_singleton];omega,by have:=HLL.out;simp only [List.length_append,List.length_singleton];omega,?_,hO6,by omega,hbq.grown HG6.out (by have:=hbq.size;exact this) (fun j hj=>by have:=(hN6 j (by rw [hj])).1;omega),fun x hx => ?_⟩
        · rw [List.length_append]
          exact (HM6.out.alloc _).kept (HG6.out.block mb (by rw [World.size_alloc];have:=HM6.out.block;omega) (fun q=>by have:=(hN6 mb q).1;omega))
        · rcases List.mem_append.1 hx with q | q
          · exact HVAL.out x q
          · rw [List.mem_singleton.1 q];exact HVX.out
end Go.Proofs.YtcikenlflcofbaaGreatDoor
