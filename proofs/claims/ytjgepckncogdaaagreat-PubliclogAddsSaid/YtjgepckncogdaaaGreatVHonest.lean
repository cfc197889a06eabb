/- Contracts of functions, walks, plain facts. Conditions: those of each theorem. -/
import Derived.Test.YtjgepckncogdaaaGreatVKChain2
import Derived.Test.YtjgepckncogdaaaGreatVCVNil
set_option linter.unusedVariables false
set_option linter.unusedSimpArgs false
set_option maxRecDepth 100000
set_option maxHeartbeats 16000000
namespace Go.Proofs.YtjgepckncogdaaaGreat
open Go Go.RowKit _root_.Go.Proofs.Tryz
theorem un_putH (x:Int) (h0:-9223372036854775808<=x) (h1:x<=9223372036854775807):wrap64 ((getB (putB 8 (u64 x)):Nat):Int)=x:=by
 rw[getB_val,valB_put,show 256 ^ 8=18446744073709551616 from by decide]
 have:=u64_lt x
 rw[Nat.mod_mod,Nat.mod_eq_of_lt this];unfold u64 wrap64
 omega
theorem un_loH (lo hi:Int) (h0:-9223372036854775808<=lo) (h1:lo<=9223372036854775807):unLo (spanB lo hi)=lo:=by
 unfold unLo spanB;rw[List.take_append_of_le_length (by rw[putB_len];omega),xtl (by rw[putB_len];omega)];exact un_putH lo h0 h1
theorem un_hiH (lo hi:Int) (h0:-9223372036854775808<=hi) (h1:hi<=9223372036854775807):unHi (spanB lo hi)=hi:=by
 unfold unHi spanB;rw[List.drop_append_of_le_length (by rw[putB_len];omega),List.drop_of_length_le (by rw[putB_len];omega),List.nil_append];exact un_putH hi h0 h1
theorem un_okH (lo hi:Int) (h:vS lo hi=true):unLo (spanB lo hi)=lo/\unHi (spanB lo hi)=hi/\unOk (spanB lo hi)=true:=by
 have h2:=h;unfold vS at h2;simp only[decide_eq_true_eq] at h2;have e1:=un_loH lo hi (by omega) (by omega);have e2:=un_hiH lo hi (by omega) (by omega);refine⟨e1,e2,?_⟩;unfold unOk;rw[e1,e2,h];simp[spanB,putB_len]
theorem rtags_ok (ns:List Bs) (lo hi:Int):encC (rootTags ns lo hi)=0:=by
 have hr:(rootG (ns.map leafH)).length=32:=rootG_len _ (leafs_len ns);have hc:checkT [] (rootTags ns lo hi)=0:=by
  have e1:namedG nROOT=true:=by decide
  have e2:namedG nSPAN=true:=by decide
  have o1:(Op.bytesLess nROOT [] || nROOT == [])=false:=by decide
  have o2:(Op.bytesLess nSPAN nROOT || nSPAN == nROOT)=false:=by decide
  have d1:(rootG (ns.map leafH)).length % 4=0:=by omega
  have d2:(spanB lo hi).length % 4=0:=by rw[spanB_len]
  simp only[rootTags,checkT,e1,e2,o1,o2,d1,d2,if_true,Bool.false_eq_true,if_false]
 have hl:(bodyT (rootTags ns lo hi)).length<=2048:=by
  rw[bodyT_len _ (fun x hx=>(checkT_ok _ _ hc x hx).1) (by simp[rootTags])];simp only[rootTags,dataT,xmp,List.map_nil,xfc,List.flatten_nil,xla,List.length_nil,xlc,spanB_len,hr]
  omega
 unfold encC;rw[if_neg (by simp[rootTags]),if_pos hc,if_neg (by omega)]
theorem atags_ok (ns:List Bs) (S part:Bs) (i:Nat) (hS:S.length<=757) (hp:part.length<=64) (hp4:part.length % 4=0) (hn:ns.length<=16):encC (ansTags i ns.length (pathG (ns.map leafH) i).flatten S part)=0:=by
 obtain⟨p1,p2,p3⟩:=pathF_len ns i;have h1:=pad4_len S;have h2:=putB_len 4 i;have h3:=putB_len 4 ns.length;have hc:checkT [] (ansTags i ns.length (pathG (ns.map leafH) i).flatten S part)=0:=by
  have e1:namedG nINDX=true:=by decide
  have e2:namedG nNUMB=true:=by decide
  have e3:namedG nPATH=true:=by decide
  have e4:namedG nSIGN=true:=by decide
  have e5:namedG nSREP=true:=by decide
  have o1:(Op.bytesLess nINDX [] || nINDX == [])=false:=by decide
  have o2:(Op.bytesLess nNUMB nINDX || nNUMB == nINDX)=false:=by decide
  have o3:(Op.bytesLess nPATH nNUMB || nPATH == nNUMB)=false:=by decide
  have o4:(Op.bytesLess nSIGN nPATH || nSIGN == nPATH)=false:=by decide
  have o5:(Op.bytesLess nSREP nSIGN || nSREP == nSIGN)=false:=by decide
  have d1:(putB 4 i).length % 4=0:=by omega
  have d2:(putB 4 ns.length).length % 4=0:=by omega
  have d3:(pathG (ns.map leafH) i).flatten.length % 4=0:=by omega
  have d4:(pad4 S).length % 4=0:=by omega
  simp only[ansTags,checkT,e1,e2,e3,e4,e5,o1,o2,o3,o4,o5,d1,d2,d3,d4,hp4,if_true,Bool.false_eq_true,if_false]
 have hl:(bodyT (ansTags i ns.length (pathG (ns.map leafH) i).flatten S part)).length<=2048:=by
  rw[bodyT_len _ (fun x hx=>(checkT_ok _ _ hc x hx).1) (by simp[ansTags])];simp only[ansTags,dataT,xmp,List.map_nil,xfc,List.flatten_nil,xla,List.length_nil,xlc]
  omega
 unfold encC;rw[if_neg (by simp[ansTags]),if_pos hc,if_neg (by omega)]
theorem part_mod (ns:List Bs) (lo hi:Int):(partG ns lo hi).length % 4=0:=encT_mod _
theorem part_back (ns:List Bs) (lo hi:Int) (hv:vS lo hi=true):datN (partG ns lo hi) 0=rootG (ns.map leafH)/\datN (partG ns lo hi) 1=spanB lo hi/\contOk (partG ns lo hi)=true:=by
 obtain⟨d1,d2⟩:=dec_enc _ (rtags_ok ns lo hi);have e0:datN (partG ns lo hi) 0=rootG (ns.map leafH):=by unfold datN partG;rw[d2];rfl
 have e1:datN (partG ns lo hi) 1=spanB lo hi:=by unfold datN partG;rw[d2];rfl
 refine⟨e0,e1,?_⟩;have hr:(rootG (ns.map leafH)).length=32:=rootG_len _ (leafs_len ns);unfold contOk;rw[e0,e1,(un_okH lo hi hv).2.2,decide_eq_true hr];unfold partG;rw[d2]
 rfl
theorem bver_honest (sd:Bs) (h m:Nat) (ns:List Bs) (i:Nat) (lo hi:Int) (hh:h<=6) (hm:m<2 ^ h) (hn:ns.length<=16) (hi':i<ns.length) (h32:(ns.getD i []).length=32) (hv:vS lo hi=true) :
 bverC (keyG sd h) (ns.getD i []) (ansB ns (sigG sd h m (tBatch++partG ns lo hi)) (partG ns lo hi) i)=0 /\
 bverLo (keyG sd h) (ns.getD i []) (ansB ns (sigG sd h m (tBatch++partG ns lo hi)) (partG ns lo hi) i)=lo /\
 bverHi (keyG sd h) (ns.getD i []) (ansB ns (sigG sd h m (tBatch++partG ns lo hi)) (partG ns lo hi) i)=hi:=by
 have hSl:=sigG_len sd h m (tBatch++partG ns lo hi);have hSf:=head_sig sd h m (tBatch++partG ns lo hi) hh;have hver:=verify_sig sd h m (tBatch++partG ns lo hi) hh hm (by have:=partG_len ns lo hi;rw[xla];show 13+_<=_;omega);obtain⟨c0,c1,cO⟩:=part_back ns lo hi hv;obtain⟨u1,u2,u3⟩:=un_okH lo hi hv;have henc:=atags_ok ns (sigG sd h m (tBatch++partG ns lo hi)) (partG ns lo hi) i (by omega) (part_le ns lo hi) (part_mod ns lo hi) hn;obtain⟨d1,d2⟩:=dec_enc _ henc;generalize hS:sigG sd h m (tBatch++partG ns lo hi)=S at *;obtain⟨p1,p2,p3⟩:=pathF_len ns i;have hb:ansB ns S (partG ns lo hi) i=encT (ansTags i ns.length (pathG (ns.map leafH) i).flatten S (partG ns lo hi)):=rfl;rw[<-hb] at d1 d2;generalize ansB ns S (partG ns lo hi) i=b at *;have k0:datN b 0=putB 4 i:=by unfold datN;rw[d2];rfl
 have k1:datN b 1=putB 4 ns.length:=by unfold datN;rw[d2];rfl
 have k2:datN b 2=(pathG (ns.map leafH) i).flatten:=by unfold datN;rw[d2];rfl
 have k3:datN b 3=pad4 S:=by unfold datN;rw[d2];rfl
 have k4:datN b 4=partG ns lo hi:=by unfold datN;rw[d2];rfl
 have ku:=fits_unpad S hSf;have hok:parseOk b=true:=by
  unfold parseOk;rw[k0,k1,k2,k3,k4,ku,cO,putB_len,putB_len,p3,d2,decide_eq_true (show 32 * (pathG (ns.map leafH) i).length % 32=0 by omega)]
  rfl
 have hpc:parseC b=0:=by unfold parseC;rw[if_pos d1,if_pos hok]
 have hsig:bsigOk (keyG sd h) b=true:=by
  unfold bsigOk sigN;rw[k3,k4,ku];exact hver
 have hpath:bpathOk (ns.getD i []) b=true:=by
  unfold bpathOk pathN;rw[k0,k1,k2,k4,c0,getB_put4 _ (by omega),getB_put4 _ (by omega),checkI_in _ _ _ _ _ (by omega) (by omega) hi'];have hc:=cutL_flat 32 (pathG (ns.map leafH) i) [] p2;rw[List.append_nil] at hc;rw[p3,show 32 * (pathG (ns.map leafH) i).length / 32=(pathG (ns.map leafH) i).length by omega,hc];have hcl:=climb_path _ (ns.map leafH) i [] nlr (by rw[xlm];exact hi');rw[xlm,List.append_nil] at hcl;have hg:(ns.map leafH).getD i []=leafH (ns.getD i []):=by
   rw[xgd,xgm,xge hi',xgd,xge hi']
   rfl
  rw[hg] at hcl;unfold checkG;rw[hcl];simp
 have hC:bverC (keyG sd h) (ns.getD i []) b=0:=by
  unfold bverC;rw[if_pos h32,if_pos hpc,if_pos hsig,if_pos hpath]
 refine⟨hC,?_,?_⟩
 ·unfold bverLo;rw[if_pos hC,k4,c1,u1]
 unfold bverHi;rw[if_pos hC,k4,c1,u2]
theorem del_honest (sd:Bs) (h m:Nat) (P:Bs) (f t:Int) (hh:h<=6) (hm:m<2 ^ h) (hP:P.length=32) (hw:vS f t=true) (S:Bs) (hS:S=sigG sd h m (tGrant++P++spanB f t)) :
 dencC P f t S=0/\delC (dencB P f t S)=0/\delP (dencB P f t S)=P/\delLo (dencB P f t S)=f/\delHi (dencB P f t S)=t/\delS (dencB P f t S)=S/\dcheckC (keyG sd h) P f t S=0:=by
 have hSf:fitsG S=true:=by rw[hS];exact head_sig _ _ _ _ hh
 have hd:dencC P f t S=0:=by unfold dencC;rw[if_pos hP,hw,hSf];rfl
 obtain⟨u1,u2,u3⟩:=un_okH f t hw;obtain⟨g1,g2,g3,g4⟩:=del_forth P f t S hd u3;have hver:verifyG (keyG sd h) (tGrant++P++spanB f t) S=true:=by
  rw[hS];refine verify_sig sd h m _ hh hm ?_;simp only[xla,spanB_len,hP];show 13+32+16<=65535
  omega
 refine⟨hd,g1,?_,?_,?_,?_,?_⟩
 ·unfold delP;rw[if_pos g1,g2]
 ·unfold delLo;rw[if_pos g1,g4,u1]
 ·unfold delHi;rw[if_pos g1,g4,u2]
 ·unfold delS;rw[if_pos g1,g3];rfl
 unfold dcheckC;rw[if_pos ⟨keyG_len _ _,hP⟩,if_pos hw,if_pos hver]
theorem namesA_wrap (a c:Bs):decide ((wrapT a c).map (·.1)=namesA)=true:=by
 rw[decide_eq_true_eq];rfl
theorem dver_wrap (sd:Bs) (h m:Nat) (P:Bs) (f t:Int) (hh:h<=6) (hm:m<2 ^ h) (hP:P.length=32) (hw:vS f t=true) (S:Bs) (hS:S=sigG sd h m (tGrant++P++spanB f t)) (n a:Bs) (he:encC (wrapT a (dencB P f t S))=0) :
 dverC (keyG sd h) n (wrapB (dencB P f t S) a)=dver2C n a P f t /\
 (dver2C n a P f t=0->dverLo (keyG sd h) n (wrapB (dencB P f t S) a)=bverLo P n a/\dverHi (keyG sd h) n (wrapB (dencB P f t S) a)=bverHi P n a):=by
 obtain⟨q1,q2,q3,q4,q5,q6,q7⟩:=del_honest sd h m P f t hh hm hP hw S hS;obtain⟨d1,d2⟩:=dec_enc _ he;have hb:wrapB (dencB P f t S) a=encT (wrapT a (dencB P f t S)):=rfl;rw[<-hb] at d1 d2;generalize wrapB (dencB P f t S) a=b at *;have k0:datN b 0=a:=by unfold datN;rw[d2];rfl
 have k1:datN b 1=dencB P f t S:=by unfold datN;rw[d2];rfl
 have hC:dverC (keyG sd h) n b=dver2C n a P f t:=by
  unfold dverC;rw[if_pos d1,d2,namesA_wrap,if_pos rfl,k0,k1];unfold dver1C;rw[if_pos q2,q3,q4,q5,q6,if_pos q7]
 refine⟨hC,fun h0=>?_⟩;unfold dverLo dverHi;rw[hC,if_pos h0,if_pos h0,k0,k1,q3];exact⟨rfl,rfl⟩
theorem dver_honest (sd sd2:Bs) (h m h2 m2:Nat) (f t lo hi:Int) (ns:List Bs) (i:Nat) (hh:h<=6) (hm:m<2 ^ h) (hh2:h2<=6) (hm2:m2<2 ^ h2) (hw:vS f t=true) (hv:vS lo hi=true) (hin:inS lo hi f t=true) (hn:ns.length<=16) (hi':i<ns.length) (h32:(ns.getD i []).length=32)
 (S:Bs) (hS:S=sigG sd h m (tGrant++keyG sd2 h2++spanB f t)) (he:encC (wrapT (ansB ns (sigG sd2 h2 m2 (tBatch++partG ns lo hi)) (partG ns lo hi) i) (dencB (keyG sd2 h2) f t S))=0) :
 dverC (keyG sd h) (ns.getD i []) (wrapB (dencB (keyG sd2 h2) f t S) (ansB ns (sigG sd2 h2 m2 (tBatch++partG ns lo hi)) (partG ns lo hi) i))=0 /\
 dverLo (keyG sd h) (ns.getD i []) (wrapB (dencB (keyG sd2 h2) f t S) (ansB ns (sigG sd2 h2 m2 (tBatch++partG ns lo hi)) (partG ns lo hi) i))=lo /\
 dverHi (keyG sd h) (ns.getD i []) (wrapB (dencB (keyG sd2 h2) f t S) (ansB ns (sigG sd2 h2 m2 (tBatch++partG ns lo hi)) (partG ns lo hi) i))=hi:=by
 obtain⟨b1,b2,b3⟩:=bver_honest sd2 h2 m2 ns i lo hi hh2 hm2 hn hi' h32 hv;obtain⟨e1,e2⟩:=dver_wrap sd h m (keyG sd2 h2) f t hh hm (keyG_len _ _) hw S hS (ns.getD i []) _ he;have hz:dver2C (ns.getD i []) (ansB ns (sigG sd2 h2 m2 (tBatch++partG ns lo hi)) (partG ns lo hi) i) (keyG sd2 h2) f t=0:=by
  unfold dver2C;rw[if_pos b1,b2,b3,if_pos hin]
 obtain⟨e3,e4⟩:=e2 hz;exact⟨e1.trans hz,e3.trans b2,e4.trans b3⟩
theorem dans_one_ok {sd2 nn S:Bs} {h2:Nat} {f t lo hi:Int} (hl:sd2.length=32) (hh:h2<=6) (hn:nn.length=32) (hv:vS lo hi=true) (hS:fitsG S=true) (hw:vS f t=true) (hi':inS lo hi f t=true) :
 dansR sd2 (h2:Int) 0 (keyG sd2 h2) f t S [nn] lo hi=(((sd2,(h2:Int),1),(keyG sd2 h2,f,t,S)),[wrapB (dencB (keyG sd2 h2) f t S) (ansB [nn] (sigG sd2 h2 0 (tBatch++partG [nn] lo hi)) (partG [nn] lo hi) 0)],0) /\
  encC (wrapT (ansB [nn] (sigG sd2 h2 0 (tBatch++partG [nn] lo hi)) (partG [nn] lo hi) 0) (dencB (keyG sd2 h2) f t S))=0:=by
 have hd:=dans_first (sd:=sd2) (P:=keyG sd2 h2) (S:=S) (h:=(h2:Int)) (f:=f) (t:=t) (ns:=[nn]) (lo:=lo) (hi:=hi) hl (by omega) (by omega) (by simp) (by simp) (by intro l hl;simp at hl;rw[hl];exact hn) hv (keyG_len _ _) hS hw hi';rw[xnc] at hd;refine⟨hd,?_⟩;have h2':=ansL_props [nn] (sigG sd2 h2 0 (tBatch++partG [nn] lo hi)) (partG [nn] lo hi) 1 (ansB [nn] (sigG sd2 h2 0 (tBatch++partG [nn] lo hi)) (partG [nn] lo hi) 0) (by simp[ansL]);have h3:=ans_le [nn] (sigG sd2 h2 0 (tBatch++partG [nn] lo hi)) (partG [nn] lo hi) 0 (by rw[sigG_len];omega) (part_le [nn] lo hi);have h4:=denc_le (keyG sd2 h2) f t S (keyG_len _ _) (head_le S hS);rw[xl1] at h3;exact wrap_fits _ _ h2'.2 (denc_mod _ f t S) (by omega)
theorem pubG_key (sd:Bs) (h:Nat) (hl:sd.length=32) (hh:h<=6):pubG sd (h:Int)=keyG sd h:=by
 unfold pubG;rw[if_pos ⟨hl,by omega,by omega⟩,xnc]
theorem honK_ver {ls:List LinkG} {k:Nat} {lo hi:Int} (h:HonK ls k lo hi) (hk:k<ls.length) (h8:ls.length<=8) (hel:∀t∈ls,t.1.length=32/\t.2.1.length=32/\t.2.2.length<=2048) (hv:vS lo hi=true) (hin:inS lo hi (-1099511627776) 1099511627776=true) :
 nextC (ls.take k) (linkT ls k).2.1=0/\dverC (linkT ls k).1 (nextG (ls.take k) (linkT ls k).2.1) (linkT ls k).2.2=0/\dverLo (linkT ls k).1 (nextG (ls.take k) (linkT ls k).2.1) (linkT ls k).2.2=lo/\dverHi (linkT ls k).1 (nextG (ls.take k) (linkT ls k).2.1) (linkT ls k).2.2=hi:=by
 obtain⟨sd,sd2,m,l1,l2,m0,m1,e1,e2,e3⟩:=h;obtain⟨n1,n2⟩:=next_zero (ls:=ls.take k) (x:=(linkT ls k).2.1) (fun t ht=>hel t (List.mem_of_mem_take ht)) (by rw[xlt];omega) e2;have p1:pubG sd 1=keyG sd 1:=pubG_key sd 1 l1 (by omega);have p2:pubG sd2 0=keyG sd2 0:=pubG_key sd2 0 l2 (by omega);rw[p1] at e1;rw[p2] at e3;generalize hS:sigG sd 1 m.toNat (tGrant++keyG sd2 0++spanB (-1099511627776) 1099511627776)=S at *;have hSf:fitsG S=true:=by rw[<-hS];exact head_sig _ _ _ _ (by omega)
 obtain⟨d1,d2⟩:=dans_one_ok (sd2:=sd2) (nn:=nextG (ls.take k) (linkT ls k).2.1) (S:=S) (h2:=0) (f:=-1099511627776) (t:=1099511627776) (lo:=lo) (hi:=hi) l2 (by omega) n2 hv hSf wide_vS hin;have d1':=d1.symm.trans e3;have ea:=(Prod.mk.inj (Prod.mk.inj d1').2).1;have ea':=(List.cons.inj ea).1;have hh:=dver_honest sd sd2 1 m.toNat 0 0 (-1099511627776) 1099511627776 lo hi [nextG (ls.take k) (linkT ls k).2.1] 0 (by omega) (by show m.toNat<2;omega) (by omega) (by decide) wide_vS hv hin (by simp) (by simp) n2 S hS.symm d2;rw[ea'] at hh;rw[e1];exact⟨n1,hh.1,hh.2.1,hh.2.2⟩
theorem honK_add {ls:List LinkG} {k:Nat} {lo hi:Int} (h:HonK ls k lo hi) (hk:k<ls.length) (h8:ls.length<=8) (hel:∀t∈ls,t.1.length=32/\t.2.1.length=32/\t.2.2.length<=2048) (hv:vS lo hi=true) (hin:inS lo hi (-1099511627776) 1099511627776=true) :
 addC (ls.take k) (linkT ls k)=0/\addV (ls.take k) (linkT ls k)=(lo,hi)/\addL (ls.take k) (linkT ls k)=ls.take (k+1)/\linkC ls k=0/\linkV ls k=(lo,hi):=by
 obtain⟨a1,a2,a3,a4⟩:=honK_ver h hk h8 hel hv hin;have ha:addC (ls.take k) (linkT ls k)=0:=by unfold addC;rw[if_pos a1];exact a2
 have hl:¬8<=(ls.take k).length:=by rw[xlt];omega
 have hc:nextC (ls.take k) (linkT ls k).2.1=nonceC (lastA (ls.take k)) (linkT ls k).2.1:=by rw[nextC,if_neg hl]
 have hg:nextG (ls.take k) (linkT ls k).2.1=linkN ls k:=by rw[nextG,if_neg hl];rfl
 refine⟨ha,?_,?_,?_,?_⟩
 ·unfold addV;rw[if_pos ha,a3,a4]
 ·unfold addL;rw[if_pos ha];exact (take_one ls k _ (linkT_get ls k hk)).symm
 ·unfold linkC;rw[<-hc,if_pos a1,<-hg];exact a2
 unfold linkV;rw[<-hg,a3,a4]
theorem linkT_take (ls:List LinkG) (m k:Nat) (h:k<m):linkT (ls.take m) k=linkT ls k:=by
 unfold linkT;rw[xgd,List.getElem?_take,if_pos h,<-xgd]
theorem take_take' (ls:List LinkG) (m k:Nat) (h:k<m):(ls.take m).take k=ls.take k:=by
 rw[List.take_take,Nat.min_eq_left (by omega)]
theorem linkC_take (ls:List LinkG) (m k:Nat) (h:k<m):linkC (ls.take m) k=linkC ls k/\linkV (ls.take m) k=linkV ls k:=by
 have e1:=linkT_take ls m k h;have e2:=take_take' ls m k h;have e3:linkN (ls.take m) k=linkN ls k:=by unfold linkN;rw[e1,e2]
 refine⟨?_,?_⟩
 ·unfold linkC;rw[e1,e2,e3]
 unfold linkV;rw[e1,e3]
theorem first_zero (ls:List LinkG) (k:Nat) (h:∀j,j<k->linkC ls j=0):firstC ls k=0:=by
 induction k with
 | zero=>rfl
 | succ k ih=>rw[first_ok ls k (ih fun j hj=>h j (by omega)),h k (by omega)]
theorem hon_all {ls:List LinkG} {sp:Nat->Int × Int} (h8:ls.length<=8) (h:∀k,k<ls.length->linkC ls k=0/\linkV ls k=sp k) (m:Nat) (hm:m<=ls.length):cverC (ls.take m)=0/\cverV (ls.take m)=(List.range m).map sp:=by
 have hl:(ls.take m).length=m:=by rw[xlt];omega
 have hc:cverC (ls.take m)=0:=by
  unfold cverC;rw[if_neg (by omega),hl];exact first_zero _ m fun j hj=>by rw[(linkC_take ls m j hj).1];exact (h j (by omega)).1
 refine⟨hc,?_⟩;unfold cverV;rw[if_pos hc,hl];unfold cverK;refine List.map_congr_left fun j hj=>?_
 have hj':=List.mem_range.1 hj;rw[(linkC_take ls m j hj').2,(h j (by omega)).2]
end Go.Proofs.YtjgepckncogdaaaGreat
