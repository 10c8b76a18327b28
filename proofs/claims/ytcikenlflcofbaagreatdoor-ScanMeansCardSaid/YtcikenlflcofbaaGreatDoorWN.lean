/-
  The word of an operation.
-/
import Derived.Test.YtcikenlflcofbaaGreatDoorM1
set_option maxRecDepth 100000
set_option maxHeartbeats 8000000
namespace Go.Proofs.YtcikenlflcofbaaGreatDoor
open Go.RowKit
theorem zkK:(Tryz.prog.info? 170).map (·.size)=some 19:=by kernel_rfl
def zcC:List Value:=zbr.map fun l=>Value.string ⟨l.toArray⟩
theorem zgG (p v:Value):Instr.storeAt 170 p v=zii 170 p v:=rfl
theorem zia (w:World) (z:Array Value) (g:Nat) (hg:g=w.heap.size) (hz:z.size=19) :
    (zii 170 (.pointer (some ⟨g,0,none⟩)) (.agg #[.string { data := #[110,111,116] },.string { data := #[97,110,100] },.string { data := #[111,114] },.string { data := #[120,111,114] },.string { data := #[60] },.string { data := #[62] },.string { data := #[61] },.string { data := #[43] },.string { data := #[45] },.string { data := #[109,105,110] },.string { data := #[109,97,120] },.string { data := #[97,98,115] },.string { data := #[105,102] },.string { data := #[114,105,115,101] },.string { data := #[102,97,108,108] },.string { data := #[100,101,108,97,121] },.string { data := #[104,111,108,100] },.string { data := #[108,97,116,99,104] },.string { data := #[99,111,117,110,116] }])).run Tryz.prog (w.alloc (.cells z 170)) = .ok () (w.alloc (.cells zcC.toArray 170)):=
  zh9 _ 19 zkK w z zcC g hg hz ⟨rfl,by decide⟩
theorem zkJ (w:World) (k:Nat) (hk:k<19):(w.alloc (.cells zcC.toArray 170)).cell? ⟨w.heap.size,k,none⟩=some (.string ⟨(zbr.getD k []).toArray⟩):=by
  have h:=cell_of_row (w.alloc (.cells zcC.toArray 170)) w.heap.size k _ _ (0,0) (heap_alloc_new w _);rw [h];have:k<zbr.length:=hk;simp [zcC,List.getD_eq_getElem?_getD,this]
attribute [local go_sem ↓] zgG
attribute [local go_sem] zia
theorem zkL (op:Int) (h1:4≤op) (h2:op≤22) (w:World):Calls Tryz.prog 113 #[.int .i64 op] w (RetStr (zgM op) w):=by
  obtain ⟨k,rfl⟩:∃ k:Nat,op=(k:Int)+4:=⟨(op-4).toNat,by omega⟩;have hw:zgM ((k:Int)+4)=zbr.getD k []:=by unfold zgM;rw [if_pos ⟨by omega,by omega⟩];congr 1;omega
  have HW:=Hi hw;have hk:k<19:=by omega
  have hc:=zkJ w k hk;have d1:decide ((k:Int)+4<4)=false:=by simp;omega
  have d2:decide ((22:Int)<(k:Int)+4)=false:=by simp;omega
  clear hw h1 h2;go_enter Tryz.func113,Tryz.ntmps113;go_wp2;go_ret
  exact ⟨by rw [HW.out];rfl,(Below.refl _ _).alloc (Nat.le_refl _) _⟩
def OpR (w:World) (s:List UInt8) (v:Value) (wr:World):Prop:=∃ k:Nat,k≤19∧v = .int .i64 ((k:Int)+4)∧zal s=zdE s (zbr.drop k) ((k:Int)+4)∧Below w.heap.size w wr
theorem zgx {s x:List UInt8} {k:Nat} (hk:k<19) (hx:zgM ((k:Int)+4)=x) (n:Int):zdE s (zbr.drop k) n=if x == s then n else zdE s (zbr.drop (k+1)) (n+1):=by
  have hl:k<zbr.length:=hk;have hw:zgM ((k:Int)+4)=zbr.getD k []:=by unfold zgM;rw [if_pos ⟨by omega,by omega⟩];congr 1;omega
  have:zbr.drop k=x::zbr.drop (k+1):=by
    rw [List.drop_eq_getElem_cons hl,← hx,hw,List.getD_eq_getElem?_getD,List.getElem?_eq_getElem hl]
    rfl
  rw [this]
  rfl
theorem zca (s:List UInt8) (w:World):Calls Tryz.prog 105 #[.string ⟨s.toArray⟩] w (RetI (zal s) w):=by
  go_enter Tryz.func105,Tryz.ntmps105;go_wp2
  go_loopw [3] (OpR w s) (fun i _=>(23-intOf i).toNat)
  case atStart=>exact ⟨0,by omega,rfl,rfl,Below.refl _ _⟩
  case round =>
    obtain ⟨k,hk,rfl,ho,hbel⟩:=hrel;have hsz:=hbel.size
    by_cases hlt:k<19
    · have C:=fun W=>zkL ((k:Int)+4) (by omega) (by omega) W
      obtain ⟨x,hx⟩:∃ x,zgM ((k:Int)+4)=x:=⟨_,rfl⟩
      rw [hx] at C
      have hst:=zgx (s:=s) hlt hx ((k:Int)+4)
      rw [← ho] at hst
      have HS:=Hi hst
      have HC:=Hi C
      clear C hx ho hst
      cases hb:(x == s) with
      | true =>
        have HB:=Hi hb
        go_wp2_with fail
        refine (HC.out _).mono ?_
        rintro e w1 ⟨rfl,hb1⟩
        go_wp2
        go_ret
        exact ⟨zbs (by rw [HS.out,if_pos HB.out]),hbel.trans (hb1.mono hsz)⟩
      | false =>
        have HB:=Hi hb
        go_wp2_with fail
        refine (HC.out _).mono ?_
        rintro e w1 ⟨rfl,hb1⟩
        have hb2:=hbel.trans (hb1.mono hsz)
        go_wp2
        go_roundw
        case rel=>exact ⟨k+1,by omega,by go_num,by rw [HS.out,if_neg (by rw [HB.out];decide)];congr 1,hb2⟩
        case measure=>simp [intOf];omega
    · obtain rfl:k=19:=by omega
      have HO:=Hi ho
      clear ho
      go_wp2
      go_ret
      exact ⟨zbs (by rw [HO.out];rfl),hbel⟩
end Go.Proofs.YtcikenlflcofbaaGreatDoor
namespace Go.Proofs.YtcikenlflcofbaaGreatDoor
open Go.RowKit
theorem zax (c:UInt8):zaH c=decide ((97≤c.toNat∧c.toNat≤122)∨(65≤c.toNat∧c.toNat≤90)):=by
  rw [Bool.eq_iff_iff];simp [zaH,UInt8.le_iff_toNat_le]
theorem zbi (c:UInt8):zaq c=decide (48≤c.toNat∧c.toNat≤57):=by
  rw [Bool.eq_iff_iff];simp [zaq,UInt8.le_iff_toNat_le]
theorem zbv (c:UInt8):zbh c=decide ((97≤c.toNat∧c.toNat≤122)∨(65≤c.toNat∧c.toNat≤90)∨(48≤c.toNat∧c.toNat≤57)∨c.toNat=95):=by
  rw [Bool.eq_iff_iff];simp [zbh,zax,zbi,← UInt8.toNat_inj,or_assoc]
theorem zb1 (c:UInt8) (w:World):Calls Tryz.prog 89 #[.int .u8 c.toNat] w (zex (zaH c) w):=by
  by_cases i0:c.toNat≤64
  · have hlo:0≤c.toNat:=by omega
    have HB:=Hi (show zaH c=false by rw [zax];simp;omega)
    have b2:(c.toNat:Int)≤64:=by omega
    clear hlo i0
    go_enter Tryz.func89,Tryz.ntmps89
    go_wp2
    go_ret
    exact ⟨zae (by rw [HB.out] <;> simp <;> omega),rfl⟩
  by_cases i1:c.toNat≤90
  · have hlo:65≤c.toNat:=by omega
    have HB:=Hi (show zaH c=true by rw [zax];simp;omega)
    have b1:(65:Int)≤(c.toNat:Int):=by omega
    have b2:(c.toNat:Int)≤90:=by omega
    clear hlo i0 i1
    go_enter Tryz.func89,Tryz.ntmps89
    go_wp2
    go_ret
    exact ⟨zae (by rw [HB.out] <;> simp <;> omega),rfl⟩
  by_cases i2:c.toNat≤96
  · have hlo:91≤c.toNat:=by omega
    have HB:=Hi (show zaH c=false by rw [zax];simp;omega)
    have b1:(91:Int)≤(c.toNat:Int):=by omega
    have b2:(c.toNat:Int)≤96:=by omega
    clear hlo i0 i1 i2
    go_enter Tryz.func89,Tryz.ntmps89
    go_wp2
    go_ret
    exact ⟨zae (by rw [HB.out] <;> simp <;> omega),rfl⟩
  by_cases i3:c.toNat≤122
  · have hlo:97≤c.toNat:=by omega
    have HB:=Hi (show zaH c=true by rw [zax];simp;omega)
    have b1:(97:Int)≤(c.toNat:Int):=by omega
    have b2:(c.toNat:Int)≤122:=by omega
    clear hlo i0 i1 i2 i3
    go_enter Tryz.func89,Tryz.ntmps89
    go_wp2
    go_ret
    exact ⟨zae (by rw [HB.out] <;> simp <;> omega),rfl⟩
  have hlo:123≤c.toNat:=by omega
  have HB:=Hi (show zaH c=false by rw [zax];simp;omega);have b1:(123:Int)≤(c.toNat:Int):=by omega
  clear hlo i0 i1 i2 i3;go_enter Tryz.func89,Tryz.ntmps89;go_wp2;go_ret
  exact ⟨zae (by rw [HB.out] <;> simp <;> omega),rfl⟩
theorem zbC (c:UInt8) (w:World):Calls Tryz.prog 90 #[.int .u8 c.toNat] w (zex (zaq c) w):=by
  by_cases i0:c.toNat≤47
  · have hlo:0≤c.toNat:=by omega
    have HB:=Hi (show zaq c=false by rw [zbi];simp;omega)
    have b2:(c.toNat:Int)≤47:=by omega
    clear hlo i0
    go_enter Tryz.func90,Tryz.ntmps90
    go_wp2
    go_ret
    exact ⟨zae (by rw [HB.out] <;> simp <;> omega),rfl⟩
  by_cases i1:c.toNat≤57
  · have hlo:48≤c.toNat:=by omega
    have HB:=Hi (show zaq c=true by rw [zbi];simp;omega)
    have b1:(48:Int)≤(c.toNat:Int):=by omega
    have b2:(c.toNat:Int)≤57:=by omega
    clear hlo i0 i1
    go_enter Tryz.func90,Tryz.ntmps90
    go_wp2
    go_ret
    exact ⟨zae (by rw [HB.out] <;> simp <;> omega),rfl⟩
  have hlo:58≤c.toNat:=by omega
  have HB:=Hi (show zaq c=false by rw [zbi];simp;omega);have b1:(58:Int)≤(c.toNat:Int):=by omega
  clear hlo i0 i1;go_enter Tryz.func90,Tryz.ntmps90;go_wp2;go_ret
  exact ⟨zae (by rw [HB.out] <;> simp <;> omega),rfl⟩
def okB (k:Nat) (c:UInt8):Bool:=if k=0 then zaH c else zbh c
def FirstOk (s:List UInt8) (k:Nat):Prop:=∀ j c,j<k→s[j]? = some c→okB j c=true
theorem FirstOk.succ {s:List UInt8} {k:Nat} {c:UInt8} (h:FirstOk s k) (hc:s[k]? = some c) (ho:okB k c=true):FirstOk s (k+1):=by
  intro j x hj hx
  rcases Nat.lt_succ_iff_lt_or_eq.1 hj with h' | rfl
  · exact h j x h' hx
  · rw [hc] at hx;cases hx;exact ho
theorem zaO {s:List UInt8} {k:Nat} {c:UInt8} (hc:s[k]? = some c) (ho:okB k c=false):zcO s=false:=by
  cases s with
  | nil=>rfl
  | cons a r =>
    cases k with
    | zero=>simp at hc;subst hc;simp [okB] at ho;simp [zcO,ho]
    | succ k =>
      simp at hc
      have:r.all zbh=false:=by rw [List.all_eq_false];exact ⟨c,List.mem_of_getElem? hc,by simp [okB] at ho;simp [ho]⟩
      simp [zcO,this]
theorem zf0 {s:List UInt8} (h0:¬ s=[]) (h1:¬ 12<s.length) (h:FirstOk s s.length):zcO s=true:=by
  cases s with
  | nil=>exact absurd rfl h0
  | cons a r =>
    have ha:=h 0 a (by simp) rfl
    have hr:r.all zbh=true:=by
      rw [List.all_eq_true];intro x hx;obtain ⟨j,hj⟩:=List.getElem?_of_mem hx;have:=h (j+1) x (by have:=(List.getElem?_eq_some_iff.1 hj).1;simp;omega) (by simpa using hj);simpa [okB] using this
    have hl:r.length<12:=by simp at h1;omega
    simp [zcO,hr,hl]
    simpa [okB] using ha
theorem zeh {s:List UInt8} (h:12<s.length):zcO s=false:=by
  cases s with
  | nil=>rfl
  | cons a r => have:¬ r.length<12:=by simp at h;omega
                simp [zcO,this]
def NaR (w:World) (s:List UInt8) (i:Value) (wr:World):Prop:=∃ k:Nat,k≤s.length∧i = .int .i64 k∧FirstOk s k∧w=wr
theorem zi9 (s:List UInt8) (w:World) (hs:s.length≤maxLen):Calls Tryz.prog 73 #[.string ⟨s.toArray⟩] w (zex (zcO s) w):=by
  unfold maxLen at hs
  by_cases h0:s=[]
  · subst h0
    go_enter Tryz.func73,Tryz.ntmps73
    go_wp2
    go_ret
    exact ⟨rfl,rfl⟩
  by_cases h1:12<s.length
  · have e0:=Hi (zeh h1)
    go_enter Tryz.func73,Tryz.ntmps73
    go_wp2
    go_ret
    exact ⟨zae e0.out.symm,rfl⟩
  have HOK:=Hi (zf0 h0 h1);have hE:s.isEmpty=false:=by simpa using h0
  have hL:¬ (12:Int)<(s.length:Int):=by omega
  have hP:0<s.length:=by have:=List.length_pos_iff.2 h0;exact this
  go_enter Tryz.func73,Tryz.ntmps73;go_wp2
  go_loopw [3,4,5,6,17] (fun _ _ _ _ i wr=>NaR w s i wr) (fun _ _ _ _ i _=>s.length-(intOf i).toNat)
  case atStart=>exact ⟨0,Nat.zero_le _,rfl,fun _ _ h=>absurd h (Nat.not_lt_zero _),rfl⟩
  case round =>
    obtain ⟨k,hk,rfl,hf,rfl⟩:=hrel;have HF:=Hi hf;clear hf
    by_cases hlt:k<s.length
    · have hc:=List.getElem?_eq_getElem hlt
      generalize hcc:s[k]=c at *
      have HC:=Hi hc
      have hkb:({ data:=s.toArray }:ByteArray)[k]'(by show k<s.toArray.size;simpa using hlt)=c:=by subst hcc;rfl
      clear hcc hc
      rcases Nat.eq_zero_or_pos k with hk0 | hk0
      · subst hk0
        by_cases i0:c.toNat≤47
        · have hlo:0≤c.toNat:=by omega
          have HB:=Hi (show okB 0 c=false by unfold okB;rw [if_pos rfl,zax];simp;omega)
          have d0:decide ((65:Int)≤(c.toNat:Int))=false:=by simp;omega
          have d1:decide ((c.toNat:Int)≤90)=true:=by simp;omega
          have d2:decide ((97:Int)≤(c.toNat:Int))=false:=by simp;omega
          have d3:decide ((c.toNat:Int)≤122)=true:=by simp;omega
          have d4:decide ((48:Int)≤(c.toNat:Int))=false:=by simp;omega
          have d5:decide ((c.toNat:Int)≤57)=true:=by simp;omega
          have d6:((c.toNat:Int) == 95)=false:=by simp;omega
          clear hlo i0
          go_wp2
          go_ret
          exact ⟨zae (zaO HC.out HB.out).symm,rfl⟩
        by_cases i1:c.toNat≤57
        · have hlo:48≤c.toNat:=by omega
          have HB:=Hi (show okB 0 c=false by unfold okB;rw [if_pos rfl,zax];simp;omega)
          have d0:decide ((65:Int)≤(c.toNat:Int))=false:=by simp;omega
          have d1:decide ((c.toNat:Int)≤90)=true:=by simp;omega
          have d2:decide ((97:Int)≤(c.toNat:Int))=false:=by simp;omega
          have d3:decide ((c.toNat:Int)≤122)=true:=by simp;omega
          have d4:decide ((48:Int)≤(c.toNat:Int))=true:=by simp;omega
          have d5:decide ((c.toNat:Int)≤57)=true:=by simp;omega
          have d6:((c.toNat:Int) == 95)=false:=by simp;omega
          clear hlo i0 i1
          go_wp2
          go_ret
          exact ⟨zae (zaO HC.out HB.out).symm,rfl⟩
        by_cases i2:c.toNat≤64
        · have hlo:58≤c.toNat:=by omega
          have HB:=Hi (show okB 0 c=false by unfold okB;rw [if_pos rfl,zax];simp;omega)
          have d0:decide ((65:Int)≤(c.toNat:Int))=false:=by simp;omega
          have d1:decide ((c.toNat:Int)≤90)=true:=by simp;omega
          have d2:decide ((97:Int)≤(c.toNat:Int))=false:=by simp;omega
          have d3:decide ((c.toNat:Int)≤122)=true:=by simp;omega
          have d4:decide ((48:Int)≤(c.toNat:Int))=true:=by simp;omega
          have d5:decide ((c.toNat:Int)≤57)=false:=by simp;omega
          have d6:((c.toNat:Int) == 95)=false:=by simp;omega
          clear hlo i0 i1 i2
          go_wp2
          go_ret
          exact ⟨zae (zaO HC.out HB.out).symm,rfl⟩
        by_cases i3:c.toNat≤90
        · have hlo:65≤c.toNat:=by omega
          have HB:=Hi (show okB 0 c=true by unfold okB;rw [if_pos rfl,zax];simp;omega)
          have d0:decide ((65:Int)≤(c.toNat:Int))=true:=by simp;omega
          have d1:decide ((c.toNat:Int)≤90)=true:=by simp;omega
          have d2:decide ((97:Int)≤(c.toNat:Int))=false:=by simp;omega
          have d3:decide ((c.toNat:Int)≤122)=true:=by simp;omega
          have d4:decide ((48:Int)≤(c.toNat:Int))=true:=by simp;omega
          have d5:decide ((c.toNat:Int)≤57)=false:=by simp;omega
          have d6:((c.toNat:Int) == 95)=false:=by simp;omega
          clear hlo i0 i1 i2 i3
          go_wp2
          go_roundw
          case rel=>exact ⟨0+1,by omega,by go_num,HF.out.succ HC.out HB.out,rfl⟩
          case measure=>simp [intOf];omega
        by_cases i4:c.toNat≤94
        · have hlo:91≤c.toNat:=by omega
          have HB:=Hi (show okB 0 c=false by unfold okB;rw [if_pos rfl,zax];simp;omega)
          have d0:decide ((65:Int)≤(c.toNat:Int))=true:=by simp;omega
          have d1:decide ((c.toNat:Int)≤90)=false:=by simp;omega
          have d2:decide ((97:Int)≤(c.toNat:Int))=false:=by simp;omega
          have d3:decide ((c.toNat:Int)≤122)=true:=by simp;omega
          have d4:decide ((48:Int)≤(c.toNat:Int))=true:=by simp;omega
          have d5:decide ((c.toNat:Int)≤57)=false:=by simp;omega
          have d6:((c.toNat:Int) == 95)=false:=by simp;omega
          clear hlo i0 i1 i2 i3 i4
          go_wp2
          go_ret
          exact ⟨zae (zaO HC.out HB.out).symm,rfl⟩
        by_cases i5:c.toNat≤95
        · have hlo:95≤c.toNat:=by omega
          have HB:=Hi (show okB 0 c=false by unfold okB;rw [if_pos rfl,zax];simp;omega)
          have d0:decide ((65:Int)≤(c.toNat:Int))=true:=by simp;omega
          have d1:decide ((c.toNat:Int)≤90)=false:=by simp;omega
          have d2:decide ((97:Int)≤(c.toNat:Int))=false:=by simp;omega
          have d3:decide ((c.toNat:Int)≤122)=true:=by simp;omega
          have d4:decide ((48:Int)≤(c.toNat:Int))=true:=by simp;omega
          have d5:decide ((c.toNat:Int)≤57)=false:=by simp;omega
          have d6:((c.toNat:Int) == 95)=true:=by simp;omega
          clear hlo i0 i1 i2 i3 i4 i5
          go_wp2
          go_ret
          exact ⟨zae (zaO HC.out HB.out).symm,rfl⟩
        by_cases i6:c.toNat≤96
        · have hlo:96≤c.toNat:=by omega
          have HB:=Hi (show okB 0 c=false by unfold okB;rw [if_pos rfl,zax];simp;omega)
          have d0:decide ((65:Int)≤(c.toNat:Int))=true:=by simp;omega
          have d1:decide ((c.toNat:Int)≤90)=false:=by simp;omega
          have d2:decide ((97:Int)≤(c.toNat:Int))=false:=by simp;omega
          have d3:decide ((c.toNat:Int)≤122)=true:=by simp;omega
          have d4:decide ((48:Int)≤(c.toNat:Int))=true:=by simp;omega
          have d5:decide ((c.toNat:Int)≤57)=false:=by simp;omega
          have d6:((c.toNat:Int) == 95)=false:=by simp;omega
          clear hlo i0 i1 i2 i3 i4 i5 i6
          go_wp2
          go_ret
          exact ⟨zae (zaO HC.out HB.out).symm,rfl⟩
        by_cases i7:c.toNat≤122
        · have hlo:97≤c.toNat:=by omega
          have HB:=Hi (show okB 0 c=true by unfold okB;rw [if_pos rfl,zax];simp;omega)
          have d0:decide ((65:Int)≤(c.toNat:Int))=true:=by simp;omega
          have d1:decide ((c.toNat:Int)≤90)=false:=by simp;omega
          have d2:decide ((97:Int)≤(c.toNat:Int))=true:=by simp;omega
          have d3:decide ((c.toNat:Int)≤122)=true:=by simp;omega
          have d4:decide ((48:Int)≤(c.toNat:Int))=true:=by simp;omega
          have d5:decide ((c.toNat:Int)≤57)=false:=by simp;omega
          have d6:((c.toNat:Int) == 95)=false:=by simp;omega
          clear hlo i0 i1 i2 i3 i4 i5 i6 i7
          go_wp2
          go_roundw
          case rel=>exact ⟨0+1,by omega,by go_num,HF.out.succ HC.out HB.out,rfl⟩
          case measure=>simp [intOf];omega
        have hlo:123≤c.toNat:=by omega
        have HB:=Hi (show okB 0 c=false by unfold okB;rw [if_pos rfl,zax];simp;omega)
        have d0:decide ((65:Int)≤(c.toNat:Int))=true:=by simp;omega
        have d1:decide ((c.toNat:Int)≤90)=false:=by simp;omega
        have d2:decide ((97:Int)≤(c.toNat:Int))=true:=by simp;omega
        have d3:decide ((c.toNat:Int)≤122)=false:=by simp;omega
        have d4:decide ((48:Int)≤(c.toNat:Int))=true:=by simp;omega
        have d5:decide ((c.toNat:Int)≤57)=false:=by simp;omega
        have d6:((c.toNat:Int) == 95)=false:=by simp;omega
        clear hlo i0 i1 i2 i3 i4 i5 i6 i7
        go_wp2
        go_ret
        exact ⟨zae (zaO HC.out HB.out).symm,rfl⟩
      · have hk1:((k:Int) == 0)=false:=by simp;omega
        by_cases i0:c.toNat≤47
        · have hlo:0≤c.toNat:=by omega
          have HB:=Hi (show okB k c=false by unfold okB;rw [if_neg (by omega),zbv];simp;omega)
          have d0:decide ((65:Int)≤(c.toNat:Int))=false:=by simp;omega
          have d1:decide ((c.toNat:Int)≤90)=true:=by simp;omega
          have d2:decide ((97:Int)≤(c.toNat:Int))=false:=by simp;omega
          have d3:decide ((c.toNat:Int)≤122)=true:=by simp;omega
          have d4:decide ((48:Int)≤(c.toNat:Int))=false:=by simp;omega
          have d5:decide ((c.toNat:Int)≤57)=true:=by simp;omega
          have d6:((c.toNat:Int) == 95)=false:=by simp;omega
          clear hlo i0
          go_wp2
          go_ret
          exact ⟨zae (zaO HC.out HB.out).symm,rfl⟩
        by_cases i1:c.toNat≤57
        · have hlo:48≤c.toNat:=by omega
          have HB:=Hi (show okB k c=true by unfold okB;rw [if_neg (by omega),zbv];simp;omega)
          have d0:decide ((65:Int)≤(c.toNat:Int))=false:=by simp;omega
          have d1:decide ((c.toNat:Int)≤90)=true:=by simp;omega
          have d2:decide ((97:Int)≤(c.toNat:Int))=false:=by simp;omega
          have d3:decide ((c.toNat:Int)≤122)=true:=by simp;omega
          have d4:decide ((48:Int)≤(c.toNat:Int))=true:=by simp;omega
          have d5:decide ((c.toNat:Int)≤57)=true:=by simp;omega
          have d6:((c.toNat:Int) == 95)=false:=by simp;omega
          clear hlo i0 i1
          go_wp2
          go_roundw
          case rel=>exact ⟨k+1,by omega,by go_num,HF.out.succ HC.out HB.out,rfl⟩
          case measure=>simp [intOf];omega
        by_cases i2:c.toNat≤64
        · have hlo:58≤c.toNat:=by omega
          have HB:=Hi (show okB k c=false by unfold okB;rw [if_neg (by omega),zbv];simp;omega)
          have d0:decide ((65:Int)≤(c.toNat:Int))=false:=by simp;omega
          have d1:decide ((c.toNat:Int)≤90)=true:=by simp;omega
          have d2:decide ((97:Int)≤(c.toNat:Int))=false:=by simp;omega
          have d3:decide ((c.toNat:Int)≤122)=true:=by simp;omega
          have d4:decide ((48:Int)≤(c.toNat:Int))=true:=by simp;omega
          have d5:decide ((c.toNat:Int)≤57)=false:=by simp;omega
          have d6:((c.toNat:Int) == 95)=false:=by simp;omega
          clear hlo i0 i1 i2
          go_wp2
          go_ret
          exact ⟨zae (zaO HC.out HB.out).symm,rfl⟩
        by_cases i3:c.toNat≤90
        · have hlo:65≤c.toNat:=by omega
          have HB:=Hi (show okB k c=true by unfold okB;rw [if_neg (by omega),zbv];simp;omega)
          have d0:decide ((65:Int)≤(c.toNat:Int))=true:=by simp;omega
          have d1:decide ((c.toNat:Int)≤90)=true:=by simp;omega
          have d2:decide ((97:Int)≤(c.toNat:Int))=false:=by simp;omega
          have d3:decide ((c.toNat:Int)≤122)=true:=by simp;omega
          have d4:decide ((48:Int)≤(c.toNat:Int))=true:=by simp;omega
          have d5:decide ((c.toNat:Int)≤57)=false:=by simp;omega
          have d6:((c.toNat:Int) == 95)=false:=by simp;omega
          clear hlo i0 i1 i2 i3
          go_wp2
          go_roundw
          case rel=>exact ⟨k+1,by omega,by go_num,HF.out.succ HC.out HB.out,rfl⟩
          case measure=>simp [intOf];omega
        by_cases i4:c.toNat≤94
        · have hlo:91≤c.toNat:=by omega
          have HB:=Hi (show okB k c=false by unfold okB;rw [if_neg (by omega),zbv];simp;omega)
          have d0:decide ((65:Int)≤(c.toNat:Int))=true:=by simp;omega
          have d1:decide ((c.toNat:Int)≤90)=false:=by simp;omega
          have d2:decide ((97:Int)≤(c.toNat:Int))=false:=by simp;omega
          have d3:decide ((c.toNat:Int)≤122)=true:=by simp;omega
          have d4:decide ((48:Int)≤(c.toNat:Int))=true:=by simp;omega
          have d5:decide ((c.toNat:Int)≤57)=false:=by simp;omega
          have d6:((c.toNat:Int) == 95)=false:=by simp;omega
          clear hlo i0 i1 i2 i3 i4
          go_wp2
          go_ret
          exact ⟨zae (zaO HC.out HB.out).symm,rfl⟩
        by_cases i5:c.toNat≤95
        · have hlo:95≤c.toNat:=by omega
          have HB:=Hi (show okB k c=true by unfold okB;rw [if_neg (by omega),zbv];simp;omega)
          have d0:decide ((65:Int)≤(c.toNat:Int))=true:=by simp;omega
          have d1:decide ((c.toNat:Int)≤90)=false:=by simp;omega
          have d2:decide ((97:Int)≤(c.toNat:Int))=false:=by simp;omega
          have d3:decide ((c.toNat:Int)≤122)=true:=by simp;omega
          have d4:decide ((48:Int)≤(c.toNat:Int))=true:=by simp;omega
          have d5:decide ((c.toNat:Int)≤57)=false:=by simp;omega
          have d6:((c.toNat:Int) == 95)=true:=by simp;omega
          clear hlo i0 i1 i2 i3 i4 i5
          go_wp2
          go_roundw
          case rel=>exact ⟨k+1,by omega,by go_num,HF.out.succ HC.out HB.out,rfl⟩
          case measure=>simp [intOf];omega
        by_cases i6:c.toNat≤96
        · have hlo:96≤c.toNat:=by omega
          have HB:=Hi (show okB k c=false by unfold okB;rw [if_neg (by omega),zbv];simp;omega)
          have d0:decide ((65:Int)≤(c.toNat:Int))=true:=by simp;omega
          have d1:decide ((c.toNat:Int)≤90)=false:=by simp;omega
          have d2:decide ((97:Int)≤(c.toNat:Int))=false:=by simp;omega
          have d3:decide ((c.toNat:Int)≤122)=true:=by simp;omega
          have d4:decide ((48:Int)≤(c.toNat:Int))=true:=by simp;omega
          have d5:decide ((c.toNat:Int)≤57)=false:=by simp;omega
          have d6:((c.toNat:Int) == 95)=false:=by simp;omega
          clear hlo i0 i1 i2 i3 i4 i5 i6
          go_wp2
          go_ret
          exact ⟨zae (zaO HC.out HB.out).symm,rfl⟩
        by_cases i7:c.toNat≤122
        · have hlo:97≤c.toNat:=by omega
          have HB:=Hi (show okB k c=true by unfold okB;rw [if_neg (by omega),zbv];simp;omega)
          have d0:decide ((65:Int)≤(c.toNat:Int))=true:=by simp;omega
          have d1:decide ((c.toNat:Int)≤90)=false:=by simp;omega
          have d2:decide ((97:Int)≤(c.toNat:Int))=true:=by simp;omega
          have d3:decide ((c.toNat:Int)≤122)=true:=by simp;omega
          have d4:decide ((48:Int)≤(c.toNat:Int))=true:=by simp;omega
          have d5:decide ((c.toNat:Int)≤57)=false:=by simp;omega
          have d6:((c.toNat:Int) == 95)=false:=by simp;omega
          clear hlo i0 i1 i2 i3 i4 i5 i6 i7
          go_wp2
          go_roundw
          case rel=>exact ⟨k+1,by omega,by go_num,HF.out.succ HC.out HB.out,rfl⟩
          case measure=>simp [intOf];omega
        have hlo:123≤c.toNat:=by omega
        have HB:=Hi (show okB k c=false by unfold okB;rw [if_neg (by omega),zbv];simp;omega)
        have d0:decide ((65:Int)≤(c.toNat:Int))=true:=by simp;omega
        have d1:decide ((c.toNat:Int)≤90)=false:=by simp;omega
        have d2:decide ((97:Int)≤(c.toNat:Int))=true:=by simp;omega
        have d3:decide ((c.toNat:Int)≤122)=false:=by simp;omega
        have d4:decide ((48:Int)≤(c.toNat:Int))=true:=by simp;omega
        have d5:decide ((c.toNat:Int)≤57)=false:=by simp;omega
        have d6:((c.toNat:Int) == 95)=false:=by simp;omega
        clear hlo i0 i1 i2 i3 i4 i5 i6 i7
        go_wp2
        go_ret
        exact ⟨zae (zaO HC.out HB.out).symm,rfl⟩
    · obtain rfl:k=s.length:=by omega
      go_wp2
      go_ret
      exact ⟨zae (HOK.out HF.out).symm,rfl⟩
theorem zcA (s:List UInt8) (w:World):Calls Tryz.prog 74 #[.string ⟨s.toArray⟩] w (zex (zaC s) w):=by
  cases hr:zaC s with
  | true =>
    have hm:s=[116,114,117,101]∨s=[102,97,108,115,101]∨s=[110,111,116]∨s=[97,110,100]∨s=[111,114]∨s=[120,111,114]∨s=[109,105,110]∨s=[109,97,120]∨s=[97,98,115]∨s=[105,102]∨s=[114,105,115,101]∨s=[102,97,108,108]∨s=[100,101,108,97,121]∨s=[104,111,108,100]∨s=[108,97,116,99,104]∨s=[99,111,117,110,116]:=by
      unfold zaC zaJ at hr;simpa using hr
    clear hr
    rcases hm with rfl | rfl | rfl | rfl | rfl | rfl | rfl | rfl | rfl | rfl | rfl | rfl | rfl | rfl | rfl | rfl
    all_goals
      go_enter Tryz.func74,Tryz.ntmps74;go_wp2;go_ret
      exact ⟨rfl,rfl⟩
  | false =>
    have hm:(s == [116,114,117,101])=false∧(s == [102,97,108,115,101])=false∧(s == [110,111,116])=false∧(s == [97,110,100])=false∧(s == [111,114])=false∧(s == [120,111,114])=false∧(s == [109,105,110])=false∧(s == [109,97,120])=false∧(s == [97,98,115])=false∧(s == [105,102])=false∧(s == [114,105,115,101])=false∧(s == [102,97,108,108])=false∧(s == [100,101,108,97,121])=false∧(s == [104,111,108,100])=false∧(s == [108,97,116,99,104])=false∧(s == [99,111,117,110,116])=false:=by
      unfold zaC zaJ at hr;simpa using hr
    obtain ⟨r0,r1,r2,r3,r4,r5,r6,r7,r8,r9,r10,r11,r12,r13,r14,r15⟩:=hm;clear hr;go_enter Tryz.func74,Tryz.ntmps74;go_wp2;go_ret
    exact ⟨rfl,rfl⟩
theorem zdS (s:List UInt8) (w:World) (hs:s.length≤maxLen):Calls Tryz.prog 47 #[.string ⟨s.toArray⟩] w (zex (zbj s) w):=by
  have C:=zi9 s w hs;have R:=zcA s w;unfold zbj;generalize zaC s=rb at *;generalize zcO s=pb at *;have HC:=Hi C;have HR:=Hi R;clear C R
  cases pb with
  | false =>
    go_enter Tryz.func47,Tryz.ntmps47;go_wp2_with fail
    refine HC.out.mono ?_
    rintro e w1 ⟨rfl,rfl⟩
    go_wp2;go_ret
    exact ⟨rfl,rfl⟩
  | true =>
    go_enter Tryz.func47,Tryz.ntmps47;go_wp2_with fail
    refine HC.out.mono ?_
    rintro e w1 ⟨rfl,rfl⟩
    go_wp2_with fail
    refine HR.out.mono ?_
    rintro e w1 ⟨rfl,rfl⟩
    go_wp2;go_ret
    exact ⟨rfl,rfl⟩
end Go.Proofs.YtcikenlflcofbaaGreatDoor
