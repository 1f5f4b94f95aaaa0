/- The walks of the plain functions. Made by a program of mine. Conditions: none. -/
import Derived.Test.YteafmomjfnlkgaaGreatQ6S
import Derived.Test.YteafmomjfnlkgaaGreatQ6A
import Derived.Test.YteafmomjfnlkgaaGreatProg
set_option linter.unusedVariables false
set_option linter.unusedSimpArgs false
set_option linter.defProp false
set_option maxRecDepth 20000
set_option maxHeartbeats 20000000
open Go Go.Proofs
open Tryz (prog)
namespace Go.Av
theorem mixed:prog.follows .mixedOrders=true:=by kernel_rfl
def bodyOf(f:Func):Code:=f.body.getD .skip
theorem tv2:tview prog 2=some (.int .i64):=by kernel_rfl
theorem ts2:tsize prog 2=1:=by kernel_rfl
def pt2:= @ptW _ _ _ tv2 rfl
def st2:= @stW _ _ ts2
theorem tv3:tview prog 3=some (.int .i64):=by kernel_rfl
theorem ts3:tsize prog 3=1:=by kernel_rfl
def pt3:= @ptW _ _ _ tv3 rfl
def st3:= @stW _ _ ts3
theorem tv4:tview prog 4=some (.bool):=by kernel_rfl
theorem ts4:tsize prog 4=1:=by kernel_rfl
def pt4:= @ptW _ _ _ tv4 rfl
def sb4:= @sbW _ _ ts4
theorem tv5:tview prog 5=some (.int .u8):=by kernel_rfl
theorem ts5:tsize prog 5=1:=by kernel_rfl
def pt5:= @ptW _ _ _ tv5 rfl
def st5:= @stW _ _ ts5
theorem tv9:tview prog 9=some (.str):=by kernel_rfl
theorem ts9:tsize prog 9=1:=by kernel_rfl
def pt9:= @ptW _ _ _ tv9 rfl
theorem le9: ∀ {s:ByteArray},abuiltin prog .len #[9] [.v (.string s)]=some (.v (.int .i64 s.size)):=len_str tv9
theorem ix9: ∀ {s:ByteArray} {i:Int},aindex prog 9 (.v (.string s)) i=aixS s i:=ix_str tv9
theorem tv22:tview prog 22=some (.slice 3 1 8):=by kernel_rfl
theorem ts22:tsize prog 22=1:=by kernel_rfl
def pt22:= @ptW _ _ _ tv22 rfl
def ia22:= @iaW _ _ _ _ _ tv22
def io22:= @ioW _ _ _ _ _ tv22
def le22:= @leW _ _ _ _ _ tv22
theorem tz3:tzero prog 3=some [.v (.int .i64 0)]:=by kernel_rfl
theorem mk22: ∀ {a b:Int} {k k':IntKind},0<=a->a<=b->b<=140737488355328->b*8<=140737488355328->mkX prog 22 (.v (.int k a)) (.v (.int k' b))=some (.fresh 1 a.toNat (lm (ik .i64) (List.replicate a.toNat 0))):=mk_ik tv22 tz3
def ap22:= @apW _ _ _ _ _ _ tv22 tz3 rfl (by decide)
def bs22:= @bsW _ _ _ _ _ _ tv22 tz3 rfl (by decide)
def ao22:= @aoW _ _ _ _ _ tv22
def as22:= @asW _ _ _ _ _ tv22
def sa22:= @saW _ _ ts22
def so22:= @soW _ _ ts22
theorem tv23:tview prog 23=some (.int .u32):=by kernel_rfl
theorem ts23:tsize prog 23=1:=by kernel_rfl
def pt23:= @ptW _ _ _ tv23 rfl
def st23:= @stW _ _ ts23
theorem tv24:tview prog 24=some (.slice 23 1 4):=by kernel_rfl
theorem ts24:tsize prog 24=1:=by kernel_rfl
def pt24:= @ptW _ _ _ tv24 rfl
def ia24:= @iaW _ _ _ _ _ tv24
def io24:= @ioW _ _ _ _ _ tv24
def le24:= @leW _ _ _ _ _ tv24
theorem tz23:tzero prog 23=some [.v (.int .u32 0)]:=by kernel_rfl
theorem mk24: ∀ {a b:Int} {k k':IntKind},0<=a->a<=b->b<=140737488355328->b*4<=140737488355328->mkX prog 24 (.v (.int k a)) (.v (.int k' b))=some (.fresh 1 a.toNat (lm (ik .u32) (List.replicate a.toNat 0))):=mk_ik tv24 tz23
def ap24:= @apW _ _ _ _ _ _ tv24 tz23 rfl (by decide)
def bs24:= @bsW _ _ _ _ _ _ tv24 tz23 rfl (by decide)
def ao24:= @aoW _ _ _ _ _ tv24
def as24:= @asW _ _ _ _ _ tv24
def sa24:= @saW _ _ ts24
def so24:= @soW _ _ ts24
theorem tv25:tview prog 25=some (.slice 2 1 8):=by kernel_rfl
theorem ts25:tsize prog 25=1:=by kernel_rfl
def pt25:= @ptW _ _ _ tv25 rfl
def ia25:= @iaW _ _ _ _ _ tv25
def io25:= @ioW _ _ _ _ _ tv25
def le25:= @leW _ _ _ _ _ tv25
theorem tz2:tzero prog 2=some [.v (.int .i64 0)]:=by kernel_rfl
theorem mk25: ∀ {a b:Int} {k k':IntKind},0<=a->a<=b->b<=140737488355328->b*8<=140737488355328->mkX prog 25 (.v (.int k a)) (.v (.int k' b))=some (.fresh 1 a.toNat (lm (ik .i64) (List.replicate a.toNat 0))):=mk_ik tv25 tz2
def ap25:= @apW _ _ _ _ _ _ tv25 tz2 rfl (by decide)
def bs25:= @bsW _ _ _ _ _ _ tv25 tz2 rfl (by decide)
def sa25:= @saW _ _ ts25
def so25:= @soW _ _ ts25
theorem tv26:tview prog 26=some (.slice 4 1 1):=by kernel_rfl
theorem ts26:tsize prog 26=1:=by kernel_rfl
def pt26:= @ptW _ _ _ tv26 rfl
def ia26:= @iaW _ _ _ _ _ tv26
def io26:= @ioW _ _ _ _ _ tv26
def le26:= @leW _ _ _ _ _ tv26
theorem tz4:tzero prog 4=some [.v (.bool false)]:=by kernel_rfl
theorem mk26: ∀ {a b:Int} {k k':IntKind},0<=a->a<=b->b<=140737488355328->b*1<=140737488355328->mkX prog 26 (.v (.int k a)) (.v (.int k' b))=some (.fresh 1 a.toNat (lm bk (List.replicate a.toNat false))):=mk_bk tv26 tz4
def ap26:= @apW _ _ _ _ _ _ tv26 tz4 rfl (by decide)
def bs26:= @bsW _ _ _ _ _ _ tv26 tz4 rfl (by decide)
def sa26:= @saW _ _ ts26
def so26:= @soW _ _ ts26
theorem tv28:tview prog 28=some (.struct):=by kernel_rfl
theorem ts28:tsize prog 28=5:=by kernel_rfl
theorem pt28: ∀ {xs:List AV} {off:Nat},part prog xs 28 off=if off+5<=xs.length then some (.agg ((xs.drop off).take 5))else none:=part_struct tv28 ts28
theorem sg28: ∀ {h:Heap} {id:Id} {off:Nat} {ys:List AV},ys.length=5->stX prog 28 h (.ptr id off 0) (.agg ys)=(h.get id).bind (stH prog 28 h id off ys):=stX_aggH ts28 (by decide)
theorem tv30:tview prog 30=some (.struct):=by kernel_rfl
theorem ts30:tsize prog 30=36:=by kernel_rfl
theorem pt30: ∀ {xs:List AV} {off:Nat},part prog xs 30 off=if off+36<=xs.length then some (.agg ((xs.drop off).take 36))else none:=part_struct tv30 ts30
theorem sg30: ∀ {h:Heap} {id:Id} {off:Nat} {ys:List AV},ys.length=36->stX prog 30 h (.ptr id off 0) (.agg ys)=(h.get id).bind (stH prog 30 h id off ys):=stX_aggH ts30 (by decide)
theorem tv31:tview prog 31=some (.slice 28 5 104):=by kernel_rfl
theorem ts31:tsize prog 31=1:=by kernel_rfl
def pt31:= @ptW _ _ _ tv31 rfl
def ia31:= @iaW _ _ _ _ _ tv31
def io31:= @ioW _ _ _ _ _ tv31
def le31:= @leW _ _ _ _ _ tv31
theorem tz28:tzero prog 28=some [.v (.int .i64 0),.v (.slice none 0 0),.v (.slice none 0 0),.v (.slice none 0 0),.v (.slice none 0 0)]:=by kernel_rfl
def ap31:= @apW _ _ _ _ _ _ tv31 tz28 rfl (by decide)
theorem af31: ∀ {lvl d m:Nat} {h:Heap} {id:Id} {n by_:Nat} {l b:List T_Tensor},m=b.length->n+m<=140737488355328->(n+m)*by_<=140737488355328->appI lvl d 5 by_ h m (fm c_T_Tensor b) id n n (.sl true true 5 n (fm c_T_Tensor l))=some (.own id 0 (n+m) (n+m),h.set id (.sl true true 5 (n+m) (fm c_T_Tensor (l++b)))):=λh1 h2 h3=>appI_fm c_T_Tensor_len h1 h2 h3 (one_fm c_T_Tensor_one)
def bs31:= @bsW _ _ _ _ _ _ tv31 tz28 rfl (by decide)
def sa31:= @saW _ _ ts31
def so31:= @soW _ _ ts31
theorem tv34:tview prog 34=some (.int .i64):=by kernel_rfl
theorem ts34:tsize prog 34=1:=by kernel_rfl
def pt34:= @ptW _ _ _ tv34 rfl
def st34:= @stW _ _ ts34
theorem tv46:tview prog 46=some (.slice 51 8 144):=by kernel_rfl
theorem ts46:tsize prog 46=1:=by kernel_rfl
def pt46:= @ptW _ _ _ tv46 rfl
def ia46:= @iaW _ _ _ _ _ tv46
def io46:= @ioW _ _ _ _ _ tv46
def le46:= @leW _ _ _ _ _ tv46
theorem tz51:tzero prog 51=some [.v (.int .i64 0),.v (.slice none 0 0),.v (.bool false),.v (.int .i64 0),.v (.slice none 0 0),.v (.slice none 0 0),.v (.slice none 0 0),.v (.slice none 0 0)]:=by kernel_rfl
def ap46:= @apW _ _ _ _ _ _ tv46 tz51 rfl (by decide)
theorem af46: ∀ {lvl d m:Nat} {h:Heap} {id:Id} {n by_:Nat} {l b:List T_Val},m=b.length->n+m<=140737488355328->(n+m)*by_<=140737488355328->appI lvl d 8 by_ h m (fm c_T_Val b) id n n (.sl true true 8 n (fm c_T_Val l))=some (.own id 0 (n+m) (n+m),h.set id (.sl true true 8 (n+m) (fm c_T_Val (l++b)))):=λh1 h2 h3=>appI_fm c_T_Val_len h1 h2 h3 (one_fm c_T_Val_one)
def bs46:= @bsW _ _ _ _ _ _ tv46 tz51 rfl (by decide)
def sa46:= @saW _ _ ts46
def so46:= @soW _ _ ts46
theorem tv51:tview prog 51=some (.struct):=by kernel_rfl
theorem ts51:tsize prog 51=8:=by kernel_rfl
theorem pt51: ∀ {xs:List AV} {off:Nat},part prog xs 51 off=if off+8<=xs.length then some (.agg ((xs.drop off).take 8))else none:=part_struct tv51 ts51
theorem sg51: ∀ {h:Heap} {id:Id} {off:Nat} {ys:List AV},ys.length=8->stX prog 51 h (.ptr id off 0) (.agg ys)=(h.get id).bind (stH prog 51 h id off ys):=stX_aggH ts51 (by decide)
theorem tv61:tview prog 61=some (.struct):=by kernel_rfl
theorem ts61:tsize prog 61=44:=by kernel_rfl
theorem pt61: ∀ {xs:List AV} {off:Nat},part prog xs 61 off=if off+44<=xs.length then some (.agg ((xs.drop off).take 44))else none:=part_struct tv61 ts61
theorem tv77:tview prog 77=some (.slice 22 1 24):=by kernel_rfl
theorem ts77:tsize prog 77=1:=by kernel_rfl
def pt77:= @ptW _ _ _ tv77 rfl
def ia77:= @iaW _ _ _ _ _ tv77
def io77:= @ioW _ _ _ _ _ tv77
def le77:= @leW _ _ _ _ _ tv77
theorem tz22:tzero prog 22=some [.v (.slice none 0 0)]:=by kernel_rfl
def bs77:= @bsW _ _ _ _ _ _ tv77 tz22 rfl (by decide)
def sa77:= @saW _ _ ts77
def so77:= @soW _ _ ts77
theorem tv81:tview prog 81=some (.other):=by kernel_rfl
theorem ts81:tsize prog 81=1:=by kernel_rfl
def pt81:= @ptW _ _ _ tv81 rfl
theorem tv84:tview prog 84=some (.other):=by kernel_rfl
theorem ts84:tsize prog 84=1:=by kernel_rfl
def pt84:= @ptW _ _ _ tv84 rfl
theorem tv85:tview prog 85=some (.other):=by kernel_rfl
theorem ts85:tsize prog 85=1:=by kernel_rfl
def pt85:= @ptW _ _ _ tv85 rfl
theorem tv86:tview prog 86=some (.other):=by kernel_rfl
theorem ts86:tsize prog 86=1:=by kernel_rfl
def pt86:= @ptW _ _ _ tv86 rfl
theorem tv87:tview prog 87=some (.other):=by kernel_rfl
theorem ts87:tsize prog 87=1:=by kernel_rfl
def pt87:= @ptW _ _ _ tv87 rfl
theorem tv88:tview prog 88=some (.other):=by kernel_rfl
theorem ts88:tsize prog 88=1:=by kernel_rfl
def pt88:= @ptW _ _ _ tv88 rfl
theorem tv90:tview prog 90=some (.struct):=by kernel_rfl
theorem ts90:tsize prog 90=5:=by kernel_rfl
theorem pt90: ∀ {xs:List AV} {off:Nat},part prog xs 90 off=if off+5<=xs.length then some (.agg ((xs.drop off).take 5))else none:=part_struct tv90 ts90
theorem sg90: ∀ {h:Heap} {id:Id} {off:Nat} {ys:List AV},ys.length=5->stX prog 90 h (.ptr id off 0) (.agg ys)=(h.get id).bind (stH prog 90 h id off ys):=stX_aggH ts90 (by decide)
theorem tv132:tview prog 132=some (.struct):=by kernel_rfl
theorem ts132:tsize prog 132=39:=by kernel_rfl
theorem pt132: ∀ {xs:List AV} {off:Nat},part prog xs 132 off=if off+39<=xs.length then some (.agg ((xs.drop off).take 39))else none:=part_struct tv132 ts132
theorem sg132: ∀ {h:Heap} {id:Id} {off:Nat} {ys:List AV},ys.length=39->stX prog 132 h (.ptr id off 0) (.agg ys)=(h.get id).bind (stH prog 132 h id off ys):=stX_aggH ts132 (by decide)
theorem tv172:tview prog 172=some (.int .u64):=by kernel_rfl
theorem ts172:tsize prog 172=1:=by kernel_rfl
def pt172:= @ptW _ _ _ tv172 rfl
def st172:= @stW _ _ ts172
theorem tv174:tview prog 174=some (.struct):=by kernel_rfl
theorem ts174:tsize prog 174=3:=by kernel_rfl
theorem pt174: ∀ {xs:List AV} {off:Nat},part prog xs 174 off=if off+3<=xs.length then some (.agg ((xs.drop off).take 3))else none:=part_struct tv174 ts174
theorem sg174: ∀ {h:Heap} {id:Id} {off:Nat} {ys:List AV},ys.length=3->stX prog 174 h (.ptr id off 0) (.agg ys)=(h.get id).bind (stH prog 174 h id off ys):=stX_aggH ts174 (by decide)
theorem tv236:tview prog 236=some (.struct):=by kernel_rfl
theorem ts236:tsize prog 236=5:=by kernel_rfl
theorem pt236: ∀ {xs:List AV} {off:Nat},part prog xs 236 off=if off+5<=xs.length then some (.agg ((xs.drop off).take 5))else none:=part_struct tv236 ts236
theorem sg236: ∀ {h:Heap} {id:Id} {off:Nat} {ys:List AV},ys.length=5->stX prog 236 h (.ptr id off 0) (.agg ys)=(h.get id).bind (stH prog 236 h id off ys):=stX_aggH ts236 (by decide)
theorem tv260:tview prog 260=some (.struct):=by kernel_rfl
theorem ts260:tsize prog 260=2:=by kernel_rfl
theorem pt260: ∀ {xs:List AV} {off:Nat},part prog xs 260 off=if off+2<=xs.length then some (.agg ((xs.drop off).take 2))else none:=part_struct tv260 ts260
theorem sg260: ∀ {h:Heap} {id:Id} {off:Nat} {ys:List AV},ys.length=2->stX prog 260 h (.ptr id off 0) (.agg ys)=(h.get id).bind (stH prog 260 h id off ys):=stX_aggH ts260 (by decide)
theorem fo28_0:fieldOf prog 28 0=some (0,3):=by kernel_rfl
def fp28_0:= @fpW _ _ _ _ _ _ fo28_0 ts3 (by decide)
def fr28_0:= @frW _ _ _ _ _ _ fo28_0 ts3 (by decide)
theorem fo28_1:fieldOf prog 28 1=some (1,22):=by kernel_rfl
def fp28_1:= @fpW _ _ _ _ _ _ fo28_1 ts22 (by decide)
def fr28_1:= @frW _ _ _ _ _ _ fo28_1 ts22 (by decide)
theorem fo28_2:fieldOf prog 28 2=some (2,24):=by kernel_rfl
def fp28_2:= @fpW _ _ _ _ _ _ fo28_2 ts24 (by decide)
def fr28_2:= @frW _ _ _ _ _ _ fo28_2 ts24 (by decide)
theorem fo28_3:fieldOf prog 28 3=some (3,25):=by kernel_rfl
def fp28_3:= @fpW _ _ _ _ _ _ fo28_3 ts25 (by decide)
def fr28_3:= @frW _ _ _ _ _ _ fo28_3 ts25 (by decide)
theorem fo28_4:fieldOf prog 28 4=some (4,26):=by kernel_rfl
def fp28_4:= @fpW _ _ _ _ _ _ fo28_4 ts26 (by decide)
def fr28_4:= @frW _ _ _ _ _ _ fo28_4 ts26 (by decide)
theorem fo30_14:fieldOf prog 30 14=some (14,4):=by kernel_rfl
def fp30_14:= @fpW _ _ _ _ _ _ fo30_14 ts4 (by decide)
def fr30_14:= @frW _ _ _ _ _ _ fo30_14 ts4 (by decide)
theorem fo51_0:fieldOf prog 51 0=some (0,3):=by kernel_rfl
def fp51_0:= @fpW _ _ _ _ _ _ fo51_0 ts3 (by decide)
def fr51_0:= @frW _ _ _ _ _ _ fo51_0 ts3 (by decide)
theorem fd51_0: ∀ {xs:List AV},fdX prog 51 0 (.agg xs)=part prog xs 3 0:=fdX_at fo51_0
theorem fo51_1:fieldOf prog 51 1=some (1,22):=by kernel_rfl
def fp51_1:= @fpW _ _ _ _ _ _ fo51_1 ts22 (by decide)
def fr51_1:= @frW _ _ _ _ _ _ fo51_1 ts22 (by decide)
theorem fd51_1: ∀ {xs:List AV},fdX prog 51 1 (.agg xs)=part prog xs 22 1:=fdX_at fo51_1
theorem fo51_2:fieldOf prog 51 2=some (2,4):=by kernel_rfl
def fp51_2:= @fpW _ _ _ _ _ _ fo51_2 ts4 (by decide)
def fr51_2:= @frW _ _ _ _ _ _ fo51_2 ts4 (by decide)
theorem fo51_3:fieldOf prog 51 3=some (3,28):=by kernel_rfl
def fp51_3:= @fpW _ _ _ _ _ _ fo51_3 ts28 (by decide)
def fr51_3:= @frW _ _ _ _ _ _ fo51_3 ts28 (by decide)
theorem fo61_0:fieldOf prog 61 0=some (0,3):=by kernel_rfl
def fp61_0:= @fpW _ _ _ _ _ _ fo61_0 ts3 (by decide)
def fr61_0:= @frW _ _ _ _ _ _ fo61_0 ts3 (by decide)
theorem fo61_1:fieldOf prog 61 1=some (1,30):=by kernel_rfl
def fp61_1:= @fpW _ _ _ _ _ _ fo61_1 ts30 (by decide)
def fr61_1:= @frW _ _ _ _ _ _ fo61_1 ts30 (by decide)
theorem fo61_2:fieldOf prog 61 2=some (37,31):=by kernel_rfl
def fp61_2:= @fpW _ _ _ _ _ _ fo61_2 ts31 (by decide)
def fr61_2:= @frW _ _ _ _ _ _ fo61_2 ts31 (by decide)
theorem fo61_3:fieldOf prog 61 3=some (38,28):=by kernel_rfl
def fp61_3:= @fpW _ _ _ _ _ _ fo61_3 ts28 (by decide)
def fr61_3:= @frW _ _ _ _ _ _ fo61_3 ts28 (by decide)
theorem fo61_4:fieldOf prog 61 4=some (43,3):=by kernel_rfl
def fp61_4:= @fpW _ _ _ _ _ _ fo61_4 ts3 (by decide)
def fr61_4:= @frW _ _ _ _ _ _ fo61_4 ts3 (by decide)
theorem fo90_0:fieldOf prog 90 0=some (0,84):=by kernel_rfl
def fp90_0:= @fpW _ _ _ _ _ _ fo90_0 ts84 (by decide)
def fr90_0:= @frW _ _ _ _ _ _ fo90_0 ts84 (by decide)
theorem fo90_1:fieldOf prog 90 1=some (1,85):=by kernel_rfl
def fp90_1:= @fpW _ _ _ _ _ _ fo90_1 ts85 (by decide)
def fr90_1:= @frW _ _ _ _ _ _ fo90_1 ts85 (by decide)
theorem fo90_2:fieldOf prog 90 2=some (2,86):=by kernel_rfl
def fp90_2:= @fpW _ _ _ _ _ _ fo90_2 ts86 (by decide)
def fr90_2:= @frW _ _ _ _ _ _ fo90_2 ts86 (by decide)
theorem fo90_3:fieldOf prog 90 3=some (3,87):=by kernel_rfl
def fp90_3:= @fpW _ _ _ _ _ _ fo90_3 ts87 (by decide)
def fr90_3:= @frW _ _ _ _ _ _ fo90_3 ts87 (by decide)
theorem fo90_4:fieldOf prog 90 4=some (4,88):=by kernel_rfl
def fp90_4:= @fpW _ _ _ _ _ _ fo90_4 ts88 (by decide)
def fr90_4:= @frW _ _ _ _ _ _ fo90_4 ts88 (by decide)
theorem fo132_0:fieldOf prog 132 0=some (0,3):=by kernel_rfl
def fp132_0:= @fpW _ _ _ _ _ _ fo132_0 ts3 (by decide)
def fr132_0:= @frW _ _ _ _ _ _ fo132_0 ts3 (by decide)
theorem fo132_1:fieldOf prog 132 1=some (1,30):=by kernel_rfl
def fp132_1:= @fpW _ _ _ _ _ _ fo132_1 ts30 (by decide)
def fr132_1:= @frW _ _ _ _ _ _ fo132_1 ts30 (by decide)
theorem fo132_2:fieldOf prog 132 2=some (37,46):=by kernel_rfl
def fp132_2:= @fpW _ _ _ _ _ _ fo132_2 ts46 (by decide)
def fr132_2:= @frW _ _ _ _ _ _ fo132_2 ts46 (by decide)
theorem fo132_3:fieldOf prog 132 3=some (38,3):=by kernel_rfl
def fp132_3:= @fpW _ _ _ _ _ _ fo132_3 ts3 (by decide)
def fr132_3:= @frW _ _ _ _ _ _ fo132_3 ts3 (by decide)
theorem fo174_0:fieldOf prog 174 0=some (0,4):=by kernel_rfl
def fp174_0:= @fpW _ _ _ _ _ _ fo174_0 ts4 (by decide)
def fr174_0:= @frW _ _ _ _ _ _ fo174_0 ts4 (by decide)
theorem fo174_1:fieldOf prog 174 1=some (1,3):=by kernel_rfl
def fp174_1:= @fpW _ _ _ _ _ _ fo174_1 ts3 (by decide)
def fr174_1:= @frW _ _ _ _ _ _ fo174_1 ts3 (by decide)
theorem fo174_2:fieldOf prog 174 2=some (2,172):=by kernel_rfl
def fp174_2:= @fpW _ _ _ _ _ _ fo174_2 ts172 (by decide)
def fr174_2:= @frW _ _ _ _ _ _ fo174_2 ts172 (by decide)
theorem fo236_0:fieldOf prog 236 0=some (0,4):=by kernel_rfl
def fp236_0:= @fpW _ _ _ _ _ _ fo236_0 ts4 (by decide)
def fr236_0:= @frW _ _ _ _ _ _ fo236_0 ts4 (by decide)
theorem fo236_1:fieldOf prog 236 1=some (1,4):=by kernel_rfl
def fp236_1:= @fpW _ _ _ _ _ _ fo236_1 ts4 (by decide)
def fr236_1:= @frW _ _ _ _ _ _ fo236_1 ts4 (by decide)
theorem fo236_2:fieldOf prog 236 2=some (2,4):=by kernel_rfl
def fp236_2:= @fpW _ _ _ _ _ _ fo236_2 ts4 (by decide)
def fr236_2:= @frW _ _ _ _ _ _ fo236_2 ts4 (by decide)
theorem fo236_3:fieldOf prog 236 3=some (3,3):=by kernel_rfl
def fp236_3:= @fpW _ _ _ _ _ _ fo236_3 ts3 (by decide)
def fr236_3:= @frW _ _ _ _ _ _ fo236_3 ts3 (by decide)
theorem fo236_4:fieldOf prog 236 4=some (4,172):=by kernel_rfl
def fp236_4:= @fpW _ _ _ _ _ _ fo236_4 ts172 (by decide)
def fr236_4:= @frW _ _ _ _ _ _ fo236_4 ts172 (by decide)
theorem fo260_0:fieldOf prog 260 0=some (0,172):=by kernel_rfl
def fp260_0:= @fpW _ _ _ _ _ _ fo260_0 ts172 (by decide)
def fr260_0:= @frW _ _ _ _ _ _ fo260_0 ts172 (by decide)
theorem fo260_1:fieldOf prog 260 1=some (1,172):=by kernel_rfl
def fp260_1:= @fpW _ _ _ _ _ _ fo260_1 ts172 (by decide)
def fr260_1:= @frW _ _ _ _ _ _ fo260_1 ts172 (by decide)
def bl28:= @blW _ _ _ tz28 tv28
theorem fl28_0:flP prog 28 0=some (0,1):= @flW _ _ _ _ _ _ fo28_0 ts3
theorem fl28_1:flP prog 28 1=some (1,1):= @flW _ _ _ _ _ _ fo28_1 ts22
theorem fl28_2:flP prog 28 2=some (2,1):= @flW _ _ _ _ _ _ fo28_2 ts24
theorem fl28_3:flP prog 28 3=some (3,1):= @flW _ _ _ _ _ _ fo28_3 ts25
theorem fl28_4:flP prog 28 4=some (4,1):= @flW _ _ _ _ _ _ fo28_4 ts26
def bl51:= @blW _ _ _ tz51 tv51
theorem fl51_0:flP prog 51 0=some (0,1):= @flW _ _ _ _ _ _ fo51_0 ts3
theorem fl51_1:flP prog 51 1=some (1,1):= @flW _ _ _ _ _ _ fo51_1 ts22
theorem fl51_2:flP prog 51 2=some (2,1):= @flW _ _ _ _ _ _ fo51_2 ts4
theorem fl51_3:flP prog 51 3=some (3,5):= @flW _ _ _ _ _ _ fo51_3 ts28
theorem tz61:tzero prog 61=some [.v (.int .i64 0),.v (.int .i64 0),.v (.slice none 0 0),.v (.bool false),.v (.bool false),.v (.bool false),.v (.bool false),.v (.bool false),.v (.slice none 0 0),.v (.bool false),.v (.int .u32 0),.v (.int .u32 0),.v (.int .u32 0),.v (.bool false),.v (.bool false),.v (.bool false),.v (.int .i64 0),.v (.int .i64 0),.v (.bool false),.v (.bool false),.v (.int .i64 0),.v (.slice none 0 0),.v (.slice none 0 0),.v (.slice none 0 0),.v (.slice none 0 0),.v (.int .i64 0),.v (.bool false),.v (.bool false),.v (.int .i64 0),.v (.int .i64 0),.v (.int .i64 0),.v (.bool false),.v (.int .i64 0),.v (.slice none 0 0),.v (.slice none 0 0),.v (.slice none 0 0),.v (.slice none 0 0),.v (.slice none 0 0),.v (.int .i64 0),.v (.slice none 0 0),.v (.slice none 0 0),.v (.slice none 0 0),.v (.slice none 0 0),.v (.int .i64 0)]:=by kernel_rfl
def bl61:= @blW _ _ _ tz61 tv61
theorem fl61_0:flP prog 61 0=some (0,1):= @flW _ _ _ _ _ _ fo61_0 ts3
theorem fl61_1:flP prog 61 1=some (1,36):= @flW _ _ _ _ _ _ fo61_1 ts30
theorem fl61_2:flP prog 61 2=some (37,1):= @flW _ _ _ _ _ _ fo61_2 ts31
theorem fl61_3:flP prog 61 3=some (38,5):= @flW _ _ _ _ _ _ fo61_3 ts28
theorem fl61_4:flP prog 61 4=some (43,1):= @flW _ _ _ _ _ _ fo61_4 ts3
theorem tz132:tzero prog 132=some [.v (.int .i64 0),.v (.int .i64 0),.v (.slice none 0 0),.v (.bool false),.v (.bool false),.v (.bool false),.v (.bool false),.v (.bool false),.v (.slice none 0 0),.v (.bool false),.v (.int .u32 0),.v (.int .u32 0),.v (.int .u32 0),.v (.bool false),.v (.bool false),.v (.bool false),.v (.int .i64 0),.v (.int .i64 0),.v (.bool false),.v (.bool false),.v (.int .i64 0),.v (.slice none 0 0),.v (.slice none 0 0),.v (.slice none 0 0),.v (.slice none 0 0),.v (.int .i64 0),.v (.bool false),.v (.bool false),.v (.int .i64 0),.v (.int .i64 0),.v (.int .i64 0),.v (.bool false),.v (.int .i64 0),.v (.slice none 0 0),.v (.slice none 0 0),.v (.slice none 0 0),.v (.slice none 0 0),.v (.slice none 0 0),.v (.int .i64 0)]:=by kernel_rfl
def bl132:= @blW _ _ _ tz132 tv132
theorem fl132_0:flP prog 132 0=some (0,1):= @flW _ _ _ _ _ _ fo132_0 ts3
theorem fl132_1:flP prog 132 1=some (1,36):= @flW _ _ _ _ _ _ fo132_1 ts30
theorem fl132_2:flP prog 132 2=some (37,1):= @flW _ _ _ _ _ _ fo132_2 ts46
theorem fl132_3:flP prog 132 3=some (38,1):= @flW _ _ _ _ _ _ fo132_3 ts3
theorem tz174:tzero prog 174=some [.v (.bool false),.v (.int .i64 0),.v (.int .u64 0)]:=by kernel_rfl
def bl174:= @blW _ _ _ tz174 tv174
theorem fl174_0:flP prog 174 0=some (0,1):= @flW _ _ _ _ _ _ fo174_0 ts4
theorem fl174_1:flP prog 174 1=some (1,1):= @flW _ _ _ _ _ _ fo174_1 ts3
theorem fl174_2:flP prog 174 2=some (2,1):= @flW _ _ _ _ _ _ fo174_2 ts172
theorem tz236:tzero prog 236=some [.v (.bool false),.v (.bool false),.v (.bool false),.v (.int .i64 0),.v (.int .u64 0)]:=by kernel_rfl
def bl236:= @blW _ _ _ tz236 tv236
theorem fl236_0:flP prog 236 0=some (0,1):= @flW _ _ _ _ _ _ fo236_0 ts4
theorem fl236_1:flP prog 236 1=some (1,1):= @flW _ _ _ _ _ _ fo236_1 ts4
theorem fl236_2:flP prog 236 2=some (2,1):= @flW _ _ _ _ _ _ fo236_2 ts4
theorem fl236_3:flP prog 236 3=some (3,1):= @flW _ _ _ _ _ _ fo236_3 ts3
theorem fl236_4:flP prog 236 4=some (4,1):= @flW _ _ _ _ _ _ fo236_4 ts172
theorem tz260:tzero prog 260=some [.v (.int .u64 0),.v (.int .u64 0)]:=by kernel_rfl
def bl260:= @blW _ _ _ tz260 tv260
theorem fl260_0:flP prog 260 0=some (0,1):= @flW _ _ _ _ _ _ fo260_0 ts172
theorem fl260_1:flP prog 260 1=some (1,1):= @flW _ _ _ _ _ _ fo260_1 ts172
def al28:= @alW _ _ _ tz28
def aq28:= @aqW _ _ _ tz28
theorem tz30:tzero prog 30=some [.v (.int .i64 0),.v (.slice none 0 0),.v (.bool false),.v (.bool false),.v (.bool false),.v (.bool false),.v (.bool false),.v (.slice none 0 0),.v (.bool false),.v (.int .u32 0),.v (.int .u32 0),.v (.int .u32 0),.v (.bool false),.v (.bool false),.v (.bool false),.v (.int .i64 0),.v (.int .i64 0),.v (.bool false),.v (.bool false),.v (.int .i64 0),.v (.slice none 0 0),.v (.slice none 0 0),.v (.slice none 0 0),.v (.slice none 0 0),.v (.int .i64 0),.v (.bool false),.v (.bool false),.v (.int .i64 0),.v (.int .i64 0),.v (.int .i64 0),.v (.bool false),.v (.int .i64 0),.v (.slice none 0 0),.v (.slice none 0 0),.v (.slice none 0 0),.v (.slice none 0 0)]:=by kernel_rfl
def al30:= @alW _ _ _ tz30
def aq30:= @aqW _ _ _ tz30
def al51:= @alW _ _ _ tz51
def aq51:= @aqW _ _ _ tz51
theorem tz90:tzero prog 90=some [.v .nilFunc,.v .nilFunc,.v .nilFunc,.v .nilFunc,.v .nilFunc]:=by kernel_rfl
def al90:= @alW _ _ _ tz90
def aq90:= @aqW _ _ _ tz90
def al132:= @alW _ _ _ tz132
def aq132:= @aqW _ _ _ tz132
def al174:= @alW _ _ _ tz174
def aq174:= @aqW _ _ _ tz174
def al236:= @alW _ _ _ tz236
def aq236:= @aqW _ _ _ tz236
def al260:= @alW _ _ _ tz260
def aq260:= @aqW _ _ _ tz260
theorem ab4: ∀ {op:BinOp} {a b:Bool},abin prog op 4 (.v (.bool a)) (.v (.bool b))=abinB op a b:=abin_bool tv4
theorem es260: ∀ {a0 a1 b0 b1:Int},abin prog .eql 260 (.agg [.v (.int .u64 a0),.v (.int .u64 a1)]) (.agg [.v (.int .u64 b0),.v (.int .u64 b1)])=some (.v (.bool (a0==b0&&(a1==b1)))):=by intro a0 a1 b0 b1;refine Eq.trans (b:=some (.v (.bool (a0==b0&&(a1==b1&&true))))) (by kernel_rfl) (by rw[Bool.and_true])
theorem cv2_172: ∀ {k':IntKind} {z:Int},cvX prog 2 172 (.v (.int k' z))=some (.v (.int .u64 (wk .u64 z))):=cvX_at tv2 tv172
theorem cv3_172: ∀ {k':IntKind} {z:Int},cvX prog 3 172 (.v (.int k' z))=some (.v (.int .u64 (wk .u64 z))):=cvX_at tv3 tv172
theorem cv5_3: ∀ {k':IntKind} {z:Int},cvX prog 5 3 (.v (.int k' z))=some (.v (.int .i64 (wk .i64 z))):=cvX_at tv5 tv3
theorem cv23_3: ∀ {k':IntKind} {z:Int},cvX prog 23 3 (.v (.int k' z))=some (.v (.int .i64 (wk .i64 z))):=cvX_at tv23 tv3
theorem cv23_172: ∀ {k':IntKind} {z:Int},cvX prog 23 172 (.v (.int k' z))=some (.v (.int .u64 (wk .u64 z))):=cvX_at tv23 tv172
theorem cv172_2: ∀ {k':IntKind} {z:Int},cvX prog 172 2 (.v (.int k' z))=some (.v (.int .i64 (wk .i64 z))):=cvX_at tv172 tv2
theorem cv172_5: ∀ {k':IntKind} {z:Int},cvX prog 172 5 (.v (.int k' z))=some (.v (.int .u8 (wk .u8 z))):=cvX_at tv172 tv5
theorem cv172_23: ∀ {k':IntKind} {z:Int},cvX prog 172 23 (.v (.int k' z))=some (.v (.int .u32 (wk .u32 z))):=cvX_at tv172 tv23
theorem sc22:sliceCells prog 4 22=[2]:=by kernel_rfl
theorem ty22:typed prog 22 (.v (.slice none 0 0))= .fresh 1 0 []:=ty_nil sc22
theorem sc24:sliceCells prog 4 24=[2]:=by kernel_rfl
theorem ty24:typed prog 24 (.v (.slice none 0 0))= .fresh 1 0 []:=ty_nil sc24
theorem sc25:sliceCells prog 4 25=[2]:=by kernel_rfl
theorem ty25:typed prog 25 (.v (.slice none 0 0))= .fresh 1 0 []:=ty_nil sc25
theorem sc26:sliceCells prog 4 26=[2]:=by kernel_rfl
theorem ty26:typed prog 26 (.v (.slice none 0 0))= .fresh 1 0 []:=ty_nil sc26
theorem sc28:sliceCells prog 4 28=[0,2,2,2,2]:=by kernel_rfl
theorem ty28: ∀ {xs:List AV},typed prog 28 (.agg xs)= .agg (nilNew xs [0,2,2,2,2]):=ty_agg sc28
theorem sc46:sliceCells prog 4 46=[9]:=by kernel_rfl
theorem ty46:typed prog 46 (.v (.slice none 0 0))= .fresh 8 0 []:=ty_nil sc46
theorem sc51:sliceCells prog 4 51=[0,2,0,0,2,2,2,2]:=by kernel_rfl
theorem ty51: ∀ {xs:List AV},typed prog 51 (.agg xs)= .agg (nilNew xs [0,2,0,0,2,2,2,2]):=ty_agg sc51
theorem sc77:sliceCells prog 4 77=[2]:=by kernel_rfl
theorem ty77:typed prog 77 (.v (.slice none 0 0))= .fresh 1 0 []:=ty_nil sc77
theorem sc174:sliceCells prog 4 174=[0,0,0]:=by kernel_rfl
theorem ty174: ∀ {xs:List AV},typed prog 174 (.agg xs)= .agg (nilNew xs [0,0,0]):=ty_agg sc174
theorem sc236:sliceCells prog 4 236=[0,0,0,0,0]:=by kernel_rfl
theorem ty236: ∀ {xs:List AV},typed prog 236 (.agg xs)= .agg (nilNew xs [0,0,0,0,0]):=ty_agg sc236
theorem sc260:sliceCells prog 4 260=[0,0]:=by kernel_rfl
theorem ty260: ∀ {xs:List AV},typed prog 260 (.agg xs)= .agg (nilNew xs [0,0]):=ty_agg sc260
theorem c_T_Tensor_at{x:T_Tensor}:c_T_Tensor x=[.v (.int .i64 x.fType),.arr x.fDims.length (lm (ik .i64) x.fDims),.arr x.fF.length (lm (ik .u32) x.fF),.arr x.fI.length (lm (ik .i64) x.fI),.arr x.fB.length (lm (bk) x.fB)]:=rfl
theorem c_T_Setting_at{x:T_Setting}:c_T_Setting x=[.v (.int .i64 x.fAxis),.arr x.fAxes.length (lm (ik .i64) x.fAxes),.v (.bool x.fHasAxes),.v (.bool x.fKeep),.v (.bool x.fNoop),.v (.bool x.fLast),.v (.bool x.fZero),.arr x.fPerm.length (lm (ik .i64) x.fPerm),.v (.bool x.fHasPerm),.v (.int .u32 x.fAlpha),.v (.int .u32 x.fBeta),.v (.int .u32 x.fEpsilon),.v (.bool x.fLow),.v (.bool x.fHigh),.v (.bool x.fFmod),.v (.int .i64 x.fTo),.v (.int .i64 x.fMode),.v (.bool x.fTransA),.v (.bool x.fTransB),.v (.int .i64 x.fGroup),.arr x.fKernel.length (lm (ik .i64) x.fKernel),.arr x.fStrides.length (lm (ik .i64) x.fStrides),.arr x.fPads.length (lm (ik .i64) x.fPads),.arr x.fDilations.length (lm (ik .i64) x.fDilations),.v (.int .i64 x.fAuto),.v (.bool x.fCeil),.v (.bool x.fCount),.v (.int .i64 x.fBlock),.v (.int .i64 x.fStart),.v (.int .i64 x.fEnd),.v (.bool x.fHasEnd),.v (.int .i64 x.fValue.fType),.arr x.fValue.fDims.length (lm (ik .i64) x.fValue.fDims),.arr x.fValue.fF.length (lm (ik .u32) x.fValue.fF),.arr x.fValue.fI.length (lm (ik .i64) x.fValue.fI),.arr x.fValue.fB.length (lm (bk) x.fValue.fB)]:=rfl
theorem c_T_Val_at{x:T_Val}:c_T_Val x=[.v (.int .i64 x.fType),.arr x.fDims.length (lm (ik .i64) x.fDims),.v (.bool x.fConst),.v (.int .i64 x.fT.fType),.arr x.fT.fDims.length (lm (ik .i64) x.fT.fDims),.arr x.fT.fF.length (lm (ik .u32) x.fT.fF),.arr x.fT.fI.length (lm (ik .i64) x.fT.fI),.arr x.fT.fB.length (lm (bk) x.fT.fB)]:=rfl
theorem c_T_infer_ask_at{x:T_infer_ask}:c_T_infer_ask x=[.v (.int .i64 x.fop),.v (.int .i64 x.fs.fAxis),.arr x.fs.fAxes.length (lm (ik .i64) x.fs.fAxes),.v (.bool x.fs.fHasAxes),.v (.bool x.fs.fKeep),.v (.bool x.fs.fNoop),.v (.bool x.fs.fLast),.v (.bool x.fs.fZero),.arr x.fs.fPerm.length (lm (ik .i64) x.fs.fPerm),.v (.bool x.fs.fHasPerm),.v (.int .u32 x.fs.fAlpha),.v (.int .u32 x.fs.fBeta),.v (.int .u32 x.fs.fEpsilon),.v (.bool x.fs.fLow),.v (.bool x.fs.fHigh),.v (.bool x.fs.fFmod),.v (.int .i64 x.fs.fTo),.v (.int .i64 x.fs.fMode),.v (.bool x.fs.fTransA),.v (.bool x.fs.fTransB),.v (.int .i64 x.fs.fGroup),.arr x.fs.fKernel.length (lm (ik .i64) x.fs.fKernel),.arr x.fs.fStrides.length (lm (ik .i64) x.fs.fStrides),.arr x.fs.fPads.length (lm (ik .i64) x.fs.fPads),.arr x.fs.fDilations.length (lm (ik .i64) x.fs.fDilations),.v (.int .i64 x.fs.fAuto),.v (.bool x.fs.fCeil),.v (.bool x.fs.fCount),.v (.int .i64 x.fs.fBlock),.v (.int .i64 x.fs.fStart),.v (.int .i64 x.fs.fEnd),.v (.bool x.fs.fHasEnd),.v (.int .i64 x.fs.fValue.fType),.arr x.fs.fValue.fDims.length (lm (ik .i64) x.fs.fValue.fDims),.arr x.fs.fValue.fF.length (lm (ik .u32) x.fs.fValue.fF),.arr x.fs.fValue.fI.length (lm (ik .i64) x.fs.fValue.fI),.arr x.fs.fValue.fB.length (lm (bk) x.fs.fValue.fB),.arr x.fin.length (fm c_T_Val x.fin),.v (.int .i64 x.fouts)]:=rfl
theorem c_T_ewise_work_at{x:T_ewise_work}:c_T_ewise_work x=[.v (.int .i64 x.fop),.v (.int .i64 x.fs.fAxis),.arr x.fs.fAxes.length (lm (ik .i64) x.fs.fAxes),.v (.bool x.fs.fHasAxes),.v (.bool x.fs.fKeep),.v (.bool x.fs.fNoop),.v (.bool x.fs.fLast),.v (.bool x.fs.fZero),.arr x.fs.fPerm.length (lm (ik .i64) x.fs.fPerm),.v (.bool x.fs.fHasPerm),.v (.int .u32 x.fs.fAlpha),.v (.int .u32 x.fs.fBeta),.v (.int .u32 x.fs.fEpsilon),.v (.bool x.fs.fLow),.v (.bool x.fs.fHigh),.v (.bool x.fs.fFmod),.v (.int .i64 x.fs.fTo),.v (.int .i64 x.fs.fMode),.v (.bool x.fs.fTransA),.v (.bool x.fs.fTransB),.v (.int .i64 x.fs.fGroup),.arr x.fs.fKernel.length (lm (ik .i64) x.fs.fKernel),.arr x.fs.fStrides.length (lm (ik .i64) x.fs.fStrides),.arr x.fs.fPads.length (lm (ik .i64) x.fs.fPads),.arr x.fs.fDilations.length (lm (ik .i64) x.fs.fDilations),.v (.int .i64 x.fs.fAuto),.v (.bool x.fs.fCeil),.v (.bool x.fs.fCount),.v (.int .i64 x.fs.fBlock),.v (.int .i64 x.fs.fStart),.v (.int .i64 x.fs.fEnd),.v (.bool x.fs.fHasEnd),.v (.int .i64 x.fs.fValue.fType),.arr x.fs.fValue.fDims.length (lm (ik .i64) x.fs.fValue.fDims),.arr x.fs.fValue.fF.length (lm (ik .u32) x.fs.fValue.fF),.arr x.fs.fValue.fI.length (lm (ik .i64) x.fs.fValue.fI),.arr x.fs.fValue.fB.length (lm (bk) x.fs.fValue.fB),.arr x.fin.length (fm c_T_Tensor x.fin),.v (.int .i64 x.fout.fType),.arr x.fout.fDims.length (lm (ik .i64) x.fout.fDims),.arr x.fout.fF.length (lm (ik .u32) x.fout.fF),.arr x.fout.fI.length (lm (ik .i64) x.fout.fI),.arr x.fout.fB.length (lm (bk) x.fout.fB),.v (.int .i64 x.fsize)]:=rfl
theorem c_T_soft_number_at{x:T_soft_number}:c_T_soft_number x=[.v (.bool x.fneg),.v (.bool x.fnan),.v (.bool x.finf),.v (.int .i64 x.fexp),.v (.int .u64 x.fsig)]:=rfl
theorem c_T_round_number_at{x:T_round_number}:c_T_round_number x=[.v (.bool x.fneg),.v (.int .i64 x.fexp),.v (.int .u64 x.fsig)]:=rfl
theorem c_T_round_wide_at{x:T_round_wide}:c_T_round_wide x=[.v (.int .u64 x.fhigh),.v (.int .u64 x.flow)]:=rfl
theorem c_T_Tensor_inj:Inj c_T_Tensor:=by
  intro a b h
  obtain⟨a0,a1,a2,a3,a4⟩:=a
  obtain⟨b0,b1,b2,b3,b4⟩:=b
  simp only[c_T_Tensor_at,INJ]at h
  simp_all
theorem c_T_Setting_inj:Inj c_T_Setting:=by
  intro a b h
  obtain⟨a0,a1,a2,a3,a4,a5,a6,a7,a8,a9,a10,a11,a12,a13,a14,a15,a16,a17,a18,a19,a20,a21,a22,a23,a24,a25,a26,a27,a28,a29,a30,⟨a_310,a_311,a_312,a_313,a_314⟩⟩:=a
  obtain⟨b0,b1,b2,b3,b4,b5,b6,b7,b8,b9,b10,b11,b12,b13,b14,b15,b16,b17,b18,b19,b20,b21,b22,b23,b24,b25,b26,b27,b28,b29,b30,⟨b_310,b_311,b_312,b_313,b_314⟩⟩:=b
  simp only[c_T_Setting_at,INJ,@c_inj_iff _ _ c_T_Tensor_inj,@lm_inj_iff _ _ (inj_avf (inj_fm c_T_Tensor_len (by decide) c_T_Tensor_inj)),@fm_inj_iff _ _ (inj_fm c_T_Tensor_len (by decide) c_T_Tensor_inj)]at h
  simp_all
theorem c_T_Val_inj:Inj c_T_Val:=by
  intro a b h
  obtain⟨a0,a1,a2,⟨a_30,a_31,a_32,a_33,a_34⟩⟩:=a
  obtain⟨b0,b1,b2,⟨b_30,b_31,b_32,b_33,b_34⟩⟩:=b
  simp only[c_T_Val_at,INJ,@c_inj_iff _ _ c_T_Tensor_inj,@lm_inj_iff _ _ (inj_avf (inj_fm c_T_Tensor_len (by decide) c_T_Tensor_inj)),@fm_inj_iff _ _ (inj_fm c_T_Tensor_len (by decide) c_T_Tensor_inj),@c_inj_iff _ _ c_T_Setting_inj,@lm_inj_iff _ _ (inj_avf (inj_fm c_T_Setting_len (by decide) c_T_Setting_inj)),@fm_inj_iff _ _ (inj_fm c_T_Setting_len (by decide) c_T_Setting_inj)]at h
  simp_all
theorem c_T_infer_ask_inj:Inj c_T_infer_ask:=by
  intro a b h
  obtain⟨a0,⟨a_10,a_11,a_12,a_13,a_14,a_15,a_16,a_17,a_18,a_19,a_110,a_111,a_112,a_113,a_114,a_115,a_116,a_117,a_118,a_119,a_120,a_121,a_122,a_123,a_124,a_125,a_126,a_127,a_128,a_129,a_130,⟨a_1_310,a_1_311,a_1_312,a_1_313,a_1_314⟩⟩,a2,a3⟩:=a
  obtain⟨b0,⟨b_10,b_11,b_12,b_13,b_14,b_15,b_16,b_17,b_18,b_19,b_110,b_111,b_112,b_113,b_114,b_115,b_116,b_117,b_118,b_119,b_120,b_121,b_122,b_123,b_124,b_125,b_126,b_127,b_128,b_129,b_130,⟨b_1_310,b_1_311,b_1_312,b_1_313,b_1_314⟩⟩,b2,b3⟩:=b
  simp only[c_T_infer_ask_at,INJ,@c_inj_iff _ _ c_T_Tensor_inj,@lm_inj_iff _ _ (inj_avf (inj_fm c_T_Tensor_len (by decide) c_T_Tensor_inj)),@fm_inj_iff _ _ (inj_fm c_T_Tensor_len (by decide) c_T_Tensor_inj),@c_inj_iff _ _ c_T_Setting_inj,@lm_inj_iff _ _ (inj_avf (inj_fm c_T_Setting_len (by decide) c_T_Setting_inj)),@fm_inj_iff _ _ (inj_fm c_T_Setting_len (by decide) c_T_Setting_inj),@c_inj_iff _ _ c_T_Val_inj,@lm_inj_iff _ _ (inj_avf (inj_fm c_T_Val_len (by decide) c_T_Val_inj)),@fm_inj_iff _ _ (inj_fm c_T_Val_len (by decide) c_T_Val_inj)]at h
  simp_all
theorem c_T_ewise_work_inj:Inj c_T_ewise_work:=by
  intro a b h
  obtain⟨a0,⟨a_10,a_11,a_12,a_13,a_14,a_15,a_16,a_17,a_18,a_19,a_110,a_111,a_112,a_113,a_114,a_115,a_116,a_117,a_118,a_119,a_120,a_121,a_122,a_123,a_124,a_125,a_126,a_127,a_128,a_129,a_130,⟨a_1_310,a_1_311,a_1_312,a_1_313,a_1_314⟩⟩,a2,⟨a_30,a_31,a_32,a_33,a_34⟩,a4⟩:=a
  obtain⟨b0,⟨b_10,b_11,b_12,b_13,b_14,b_15,b_16,b_17,b_18,b_19,b_110,b_111,b_112,b_113,b_114,b_115,b_116,b_117,b_118,b_119,b_120,b_121,b_122,b_123,b_124,b_125,b_126,b_127,b_128,b_129,b_130,⟨b_1_310,b_1_311,b_1_312,b_1_313,b_1_314⟩⟩,b2,⟨b_30,b_31,b_32,b_33,b_34⟩,b4⟩:=b
  simp only[c_T_ewise_work_at,INJ,@c_inj_iff _ _ c_T_Tensor_inj,@lm_inj_iff _ _ (inj_avf (inj_fm c_T_Tensor_len (by decide) c_T_Tensor_inj)),@fm_inj_iff _ _ (inj_fm c_T_Tensor_len (by decide) c_T_Tensor_inj),@c_inj_iff _ _ c_T_Setting_inj,@lm_inj_iff _ _ (inj_avf (inj_fm c_T_Setting_len (by decide) c_T_Setting_inj)),@fm_inj_iff _ _ (inj_fm c_T_Setting_len (by decide) c_T_Setting_inj),@c_inj_iff _ _ c_T_Val_inj,@lm_inj_iff _ _ (inj_avf (inj_fm c_T_Val_len (by decide) c_T_Val_inj)),@fm_inj_iff _ _ (inj_fm c_T_Val_len (by decide) c_T_Val_inj),@c_inj_iff _ _ c_T_infer_ask_inj,@lm_inj_iff _ _ (inj_avf (inj_fm c_T_infer_ask_len (by decide) c_T_infer_ask_inj)),@fm_inj_iff _ _ (inj_fm c_T_infer_ask_len (by decide) c_T_infer_ask_inj)]at h
  simp_all
theorem c_T_soft_number_inj:Inj c_T_soft_number:=by
  intro a b h
  obtain⟨a0,a1,a2,a3,a4⟩:=a
  obtain⟨b0,b1,b2,b3,b4⟩:=b
  simp only[c_T_soft_number_at,INJ,@c_inj_iff _ _ c_T_Tensor_inj,@lm_inj_iff _ _ (inj_avf (inj_fm c_T_Tensor_len (by decide) c_T_Tensor_inj)),@fm_inj_iff _ _ (inj_fm c_T_Tensor_len (by decide) c_T_Tensor_inj),@c_inj_iff _ _ c_T_Setting_inj,@lm_inj_iff _ _ (inj_avf (inj_fm c_T_Setting_len (by decide) c_T_Setting_inj)),@fm_inj_iff _ _ (inj_fm c_T_Setting_len (by decide) c_T_Setting_inj),@c_inj_iff _ _ c_T_Val_inj,@lm_inj_iff _ _ (inj_avf (inj_fm c_T_Val_len (by decide) c_T_Val_inj)),@fm_inj_iff _ _ (inj_fm c_T_Val_len (by decide) c_T_Val_inj),@c_inj_iff _ _ c_T_infer_ask_inj,@lm_inj_iff _ _ (inj_avf (inj_fm c_T_infer_ask_len (by decide) c_T_infer_ask_inj)),@fm_inj_iff _ _ (inj_fm c_T_infer_ask_len (by decide) c_T_infer_ask_inj),@c_inj_iff _ _ c_T_ewise_work_inj,@lm_inj_iff _ _ (inj_avf (inj_fm c_T_ewise_work_len (by decide) c_T_ewise_work_inj)),@fm_inj_iff _ _ (inj_fm c_T_ewise_work_len (by decide) c_T_ewise_work_inj)]at h
  simp_all
theorem c_T_round_number_inj:Inj c_T_round_number:=by
  intro a b h
  obtain⟨a0,a1,a2⟩:=a
  obtain⟨b0,b1,b2⟩:=b
  simp only[c_T_round_number_at,INJ,@c_inj_iff _ _ c_T_Tensor_inj,@lm_inj_iff _ _ (inj_avf (inj_fm c_T_Tensor_len (by decide) c_T_Tensor_inj)),@fm_inj_iff _ _ (inj_fm c_T_Tensor_len (by decide) c_T_Tensor_inj),@c_inj_iff _ _ c_T_Setting_inj,@lm_inj_iff _ _ (inj_avf (inj_fm c_T_Setting_len (by decide) c_T_Setting_inj)),@fm_inj_iff _ _ (inj_fm c_T_Setting_len (by decide) c_T_Setting_inj),@c_inj_iff _ _ c_T_Val_inj,@lm_inj_iff _ _ (inj_avf (inj_fm c_T_Val_len (by decide) c_T_Val_inj)),@fm_inj_iff _ _ (inj_fm c_T_Val_len (by decide) c_T_Val_inj),@c_inj_iff _ _ c_T_infer_ask_inj,@lm_inj_iff _ _ (inj_avf (inj_fm c_T_infer_ask_len (by decide) c_T_infer_ask_inj)),@fm_inj_iff _ _ (inj_fm c_T_infer_ask_len (by decide) c_T_infer_ask_inj),@c_inj_iff _ _ c_T_ewise_work_inj,@lm_inj_iff _ _ (inj_avf (inj_fm c_T_ewise_work_len (by decide) c_T_ewise_work_inj)),@fm_inj_iff _ _ (inj_fm c_T_ewise_work_len (by decide) c_T_ewise_work_inj),@c_inj_iff _ _ c_T_soft_number_inj,@lm_inj_iff _ _ (inj_avf (inj_fm c_T_soft_number_len (by decide) c_T_soft_number_inj)),@fm_inj_iff _ _ (inj_fm c_T_soft_number_len (by decide) c_T_soft_number_inj)]at h
  simp_all
theorem c_T_round_wide_inj:Inj c_T_round_wide:=by
  intro a b h
  obtain⟨a0,a1⟩:=a
  obtain⟨b0,b1⟩:=b
  simp only[c_T_round_wide_at,INJ,@c_inj_iff _ _ c_T_Tensor_inj,@lm_inj_iff _ _ (inj_avf (inj_fm c_T_Tensor_len (by decide) c_T_Tensor_inj)),@fm_inj_iff _ _ (inj_fm c_T_Tensor_len (by decide) c_T_Tensor_inj),@c_inj_iff _ _ c_T_Setting_inj,@lm_inj_iff _ _ (inj_avf (inj_fm c_T_Setting_len (by decide) c_T_Setting_inj)),@fm_inj_iff _ _ (inj_fm c_T_Setting_len (by decide) c_T_Setting_inj),@c_inj_iff _ _ c_T_Val_inj,@lm_inj_iff _ _ (inj_avf (inj_fm c_T_Val_len (by decide) c_T_Val_inj)),@fm_inj_iff _ _ (inj_fm c_T_Val_len (by decide) c_T_Val_inj),@c_inj_iff _ _ c_T_infer_ask_inj,@lm_inj_iff _ _ (inj_avf (inj_fm c_T_infer_ask_len (by decide) c_T_infer_ask_inj)),@fm_inj_iff _ _ (inj_fm c_T_infer_ask_len (by decide) c_T_infer_ask_inj),@c_inj_iff _ _ c_T_ewise_work_inj,@lm_inj_iff _ _ (inj_avf (inj_fm c_T_ewise_work_len (by decide) c_T_ewise_work_inj)),@fm_inj_iff _ _ (inj_fm c_T_ewise_work_len (by decide) c_T_ewise_work_inj),@c_inj_iff _ _ c_T_soft_number_inj,@lm_inj_iff _ _ (inj_avf (inj_fm c_T_soft_number_len (by decide) c_T_soft_number_inj)),@fm_inj_iff _ _ (inj_fm c_T_soft_number_len (by decide) c_T_soft_number_inj),@c_inj_iff _ _ c_T_round_number_inj,@lm_inj_iff _ _ (inj_avf (inj_fm c_T_round_number_len (by decide) c_T_round_number_inj)),@fm_inj_iff _ _ (inj_fm c_T_round_number_len (by decide) c_T_round_number_inj)]at h
  simp_all
def TT0:=And.intro @ts2<|And.intro @pt2<|And.intro @st2<|And.intro @ts3<|And.intro @pt3<|And.intro @st3<|And.intro @ts4<|And.intro @pt4<|And.intro @sb4<|And.intro @ts5<|And.intro @pt5<|And.intro @st5<|And.intro @ts9<|And.intro @pt9<|And.intro @le9<|And.intro @ix9<|And.intro @ts22<|And.intro @pt22<|And.intro @ia22<|And.intro @io22<|And.intro @le22<|And.intro @mk22<|And.intro @ap22<|And.intro @bs22<|And.intro @ao22<|And.intro @as22<|And.intro @sa22<|And.intro @so22<|And.intro @ts23<|And.intro @pt23<|And.intro @st23<|And.intro @ts24<|And.intro @pt24<|And.intro @ia24<|And.intro @io24<|And.intro @le24<|And.intro @mk24<|And.intro @ap24<|And.intro @bs24<| @ao24
def TT1:=And.intro @as24<|And.intro @sa24<|And.intro @so24<|And.intro @ts25<|And.intro @pt25<|And.intro @ia25<|And.intro @io25<|And.intro @le25<|And.intro @mk25<|And.intro @ap25<|And.intro @bs25<|And.intro @sa25<|And.intro @so25<|And.intro @ts26<|And.intro @pt26<|And.intro @ia26<|And.intro @io26<|And.intro @le26<|And.intro @mk26<|And.intro @ap26<|And.intro @bs26<|And.intro @sa26<|And.intro @so26<|And.intro @ts28<|And.intro @pt28<|And.intro @sg28<|And.intro @ts30<|And.intro @pt30<|And.intro @sg30<|And.intro @ts31<|And.intro @pt31<|And.intro @ia31<|And.intro @io31<|And.intro @le31<|And.intro @ap31<|And.intro @af31<|And.intro @bs31<|And.intro @sa31<|And.intro @so31<| @ts34
def TT2:=And.intro @pt34<|And.intro @st34<|And.intro @ts46<|And.intro @pt46<|And.intro @ia46<|And.intro @io46<|And.intro @le46<|And.intro @ap46<|And.intro @af46<|And.intro @bs46<|And.intro @sa46<|And.intro @so46<|And.intro @ts51<|And.intro @pt51<|And.intro @sg51<|And.intro @ts61<|And.intro @pt61<|And.intro @ts77<|And.intro @pt77<|And.intro @ia77<|And.intro @io77<|And.intro @le77<|And.intro @bs77<|And.intro @sa77<|And.intro @so77<|And.intro @ts81<|And.intro @pt81<|And.intro @ts84<|And.intro @pt84<|And.intro @ts85<|And.intro @pt85<|And.intro @ts86<|And.intro @pt86<|And.intro @ts87<|And.intro @pt87<|And.intro @ts88<|And.intro @pt88<|And.intro @ts90<|And.intro @pt90<| @sg90
def TT3:=And.intro @ts132<|And.intro @pt132<|And.intro @sg132<|And.intro @ts172<|And.intro @pt172<|And.intro @st172<|And.intro @ts174<|And.intro @pt174<|And.intro @sg174<|And.intro @ts236<|And.intro @pt236<|And.intro @sg236<|And.intro @ts260<|And.intro @pt260<|And.intro @sg260<|And.intro @fo28_0<|And.intro @fp28_0<|And.intro @fr28_0<|And.intro @fo28_1<|And.intro @fp28_1<|And.intro @fr28_1<|And.intro @fo28_2<|And.intro @fp28_2<|And.intro @fr28_2<|And.intro @fo28_3<|And.intro @fp28_3<|And.intro @fr28_3<|And.intro @fo28_4<|And.intro @fp28_4<|And.intro @fr28_4<|And.intro @fo30_14<|And.intro @fp30_14<|And.intro @fr30_14<|And.intro @fo51_0<|And.intro @fp51_0<|And.intro @fr51_0<|And.intro @fd51_0<|And.intro @fo51_1<|And.intro @fp51_1<| @fr51_1
def TT4:=And.intro @fd51_1<|And.intro @fo51_2<|And.intro @fp51_2<|And.intro @fr51_2<|And.intro @fo51_3<|And.intro @fp51_3<|And.intro @fr51_3<|And.intro @fo61_0<|And.intro @fp61_0<|And.intro @fr61_0<|And.intro @fo61_1<|And.intro @fp61_1<|And.intro @fr61_1<|And.intro @fo61_2<|And.intro @fp61_2<|And.intro @fr61_2<|And.intro @fo61_3<|And.intro @fp61_3<|And.intro @fr61_3<|And.intro @fo61_4<|And.intro @fp61_4<|And.intro @fr61_4<|And.intro @fo90_0<|And.intro @fp90_0<|And.intro @fr90_0<|And.intro @fo90_1<|And.intro @fp90_1<|And.intro @fr90_1<|And.intro @fo90_2<|And.intro @fp90_2<|And.intro @fr90_2<|And.intro @fo90_3<|And.intro @fp90_3<|And.intro @fr90_3<|And.intro @fo90_4<|And.intro @fp90_4<|And.intro @fr90_4<|And.intro @fo132_0<|And.intro @fp132_0<| @fr132_0
def TT5:=And.intro @fo132_1<|And.intro @fp132_1<|And.intro @fr132_1<|And.intro @fo132_2<|And.intro @fp132_2<|And.intro @fr132_2<|And.intro @fo132_3<|And.intro @fp132_3<|And.intro @fr132_3<|And.intro @fo174_0<|And.intro @fp174_0<|And.intro @fr174_0<|And.intro @fo174_1<|And.intro @fp174_1<|And.intro @fr174_1<|And.intro @fo174_2<|And.intro @fp174_2<|And.intro @fr174_2<|And.intro @fo236_0<|And.intro @fp236_0<|And.intro @fr236_0<|And.intro @fo236_1<|And.intro @fp236_1<|And.intro @fr236_1<|And.intro @fo236_2<|And.intro @fp236_2<|And.intro @fr236_2<|And.intro @fo236_3<|And.intro @fp236_3<|And.intro @fr236_3<|And.intro @fo236_4<|And.intro @fp236_4<|And.intro @fr236_4<|And.intro @fo260_0<|And.intro @fp260_0<|And.intro @fr260_0<|And.intro @fo260_1<|And.intro @fp260_1<|And.intro @fr260_1<| @bl28
def TT6:=And.intro @fl28_0<|And.intro @fl28_1<|And.intro @fl28_2<|And.intro @fl28_3<|And.intro @fl28_4<|And.intro @bl51<|And.intro @fl51_0<|And.intro @fl51_1<|And.intro @fl51_2<|And.intro @fl51_3<|And.intro @bl61<|And.intro @fl61_0<|And.intro @fl61_1<|And.intro @fl61_2<|And.intro @fl61_3<|And.intro @fl61_4<|And.intro @bl132<|And.intro @fl132_0<|And.intro @fl132_1<|And.intro @fl132_2<|And.intro @fl132_3<|And.intro @bl174<|And.intro @fl174_0<|And.intro @fl174_1<|And.intro @fl174_2<|And.intro @bl236<|And.intro @fl236_0<|And.intro @fl236_1<|And.intro @fl236_2<|And.intro @fl236_3<|And.intro @fl236_4<|And.intro @bl260<|And.intro @fl260_0<|And.intro @fl260_1<|And.intro @al28<|And.intro @aq28<|And.intro @al30<|And.intro @aq30<|And.intro @al51<| @aq51
def TT7:=And.intro @al90<|And.intro @aq90<|And.intro @al132<|And.intro @aq132<|And.intro @al174<|And.intro @aq174<|And.intro @al236<|And.intro @aq236<|And.intro @al260<|And.intro @aq260<|And.intro @ab4<|And.intro @es260<|And.intro @cv2_172<|And.intro @cv3_172<|And.intro @cv5_3<|And.intro @cv23_3<|And.intro @cv23_172<|And.intro @cv172_2<|And.intro @cv172_5<|And.intro @cv172_23<|And.intro @ty22<|And.intro @ty24<|And.intro @ty25<|And.intro @ty26<|And.intro @ty28<|And.intro @ty46<|And.intro @ty51<|And.intro @ty77<|And.intro @ty174<|And.intro @ty236<|And.intro @ty260<|And.intro @c_T_Tensor_at<|And.intro (λl=> @one_fm _ c_T_Tensor l c_T_Tensor_one)<|And.intro @c_T_Setting_at<|And.intro (λl=> @one_fm _ c_T_Setting l c_T_Setting_one)<|And.intro @c_T_Val_at<|And.intro (λl=> @one_fm _ c_T_Val l c_T_Val_one)<|And.intro @c_T_infer_ask_at<|And.intro (λl=> @one_fm _ c_T_infer_ask l c_T_infer_ask_one)<| @c_T_ewise_work_at
def TT8:=And.intro (λl=> @one_fm _ c_T_ewise_work l c_T_ewise_work_one)<|And.intro @c_T_soft_number_at<|And.intro (λl=> @one_fm _ c_T_soft_number l c_T_soft_number_one)<|And.intro @c_T_round_number_at<|And.intro (λl=> @one_fm _ c_T_round_number l c_T_round_number_one)<|And.intro @c_T_round_wide_at<|(λl=> @one_fm _ c_T_round_wide l c_T_round_wide_one)
def TT:=And.intro @TT0<|And.intro @TT1<|And.intro @TT2<|And.intro @TT3<|And.intro @TT4<|And.intro @TT5<|And.intro @TT6<|And.intro @TT7<| @TT8
def OF:=And.intro (λl=> @one_fm _ c_T_Tensor l c_T_Tensor_one)<|And.intro (λl=> @one_fm _ c_T_Setting l c_T_Setting_one)<|And.intro (λl=> @one_fm _ c_T_Val l c_T_Val_one)<|And.intro (λl=> @one_fm _ c_T_infer_ask l c_T_infer_ask_one)<|And.intro (λl=> @one_fm _ c_T_ewise_work l c_T_ewise_work_one)<|And.intro (λl=> @one_fm _ c_T_soft_number l c_T_soft_number_one)<|And.intro (λl=> @one_fm _ c_T_round_number l c_T_round_number_one)<|(λl=> @one_fm _ c_T_round_wide l c_T_round_wide_one)
def NT:=And.intro @c_T_Tensor_at<|And.intro @c_T_Setting_at<|And.intro @c_T_Val_at<|And.intro @c_T_infer_ask_at<|And.intro @c_T_ewise_work_at<|And.intro @c_T_soft_number_at<|And.intro @c_T_round_number_at<| @c_T_round_wide_at
def OZ:=And.intro LN<|And.intro RO OF
theorem Zd{p:Prop}(h:p:=by first|assumption|decide|with_unfolding_all rfl|omega|simp only[OZ] <;> omega|fail):p:=h
theorem Ze{p:Prop}(h:p:=by first|rfl|(simp only[LN,NN,NT])):p:=h
theorem Zh{p:Prop}(h:p:=by first|(simp (disch:=first|exact Zd|fail) only[RR,simprocAttr,LN,NN,NT];done)|(simp (disch:=first|exact Zd|fail) only[RR,simprocAttr,LN,fm_app,NN,NT];done)|rfl):p:=h
def FN:=And.intro FF<|And.intro LN<|And.intro NN NT
theorem onf{e:Nat->Option AV}:opnd e (.const .nilFunc)=some (.v .nilFunc):=rfl
theorem one_nf:AV.one (.v .nilFunc)=true:=rfl
theorem opn_nf{e:Nat->Option AV}:opnd e (.const .nilFunc)=some (.v .nilFunc):=rfl
def ZZ:=And.intro one_nf<|And.intro @opn_nf<|And.intro @onf<|And.intro @fnX_at<|And.intro RR<|And.intro RM<|And.intro LN<|And.intro TT RH
theorem Jc{β:Type}{m m':Option AV}{s:Option β}{enc:β->AV}(j:J m' s enc)(h:m=m':=by conv=>lhs;simp (disch:=first|exact Zd|fail) only[ZZ,simprocAttr, *]):J m s enc:=J.eq h j
theorem Js{p:Prop}(h:p:=by simp (maxSteps:=20000000) (disch:=first|exact Zd|fail) only[ZZ,simprocAttr,FN, *]):p:=h
def IJ:=And.intro (@c_inj_iff _ _ c_T_Tensor_inj)<|And.intro (@lm_inj_iff _ _ (inj_avf (inj_fm c_T_Tensor_len (by decide) c_T_Tensor_inj)))<|And.intro (@fm_inj_iff _ _ (inj_fm c_T_Tensor_len (by decide) c_T_Tensor_inj))<|And.intro (@c_inj_iff _ _ c_T_Setting_inj)<|And.intro (@lm_inj_iff _ _ (inj_avf (inj_fm c_T_Setting_len (by decide) c_T_Setting_inj)))<|And.intro (@fm_inj_iff _ _ (inj_fm c_T_Setting_len (by decide) c_T_Setting_inj))<|And.intro (@c_inj_iff _ _ c_T_Val_inj)<|And.intro (@lm_inj_iff _ _ (inj_avf (inj_fm c_T_Val_len (by decide) c_T_Val_inj)))<|And.intro (@fm_inj_iff _ _ (inj_fm c_T_Val_len (by decide) c_T_Val_inj))<|And.intro (@c_inj_iff _ _ c_T_infer_ask_inj)<|And.intro (@lm_inj_iff _ _ (inj_avf (inj_fm c_T_infer_ask_len (by decide) c_T_infer_ask_inj)))<|And.intro (@fm_inj_iff _ _ (inj_fm c_T_infer_ask_len (by decide) c_T_infer_ask_inj))<|And.intro (@c_inj_iff _ _ c_T_ewise_work_inj)<|And.intro (@lm_inj_iff _ _ (inj_avf (inj_fm c_T_ewise_work_len (by decide) c_T_ewise_work_inj)))<|And.intro (@fm_inj_iff _ _ (inj_fm c_T_ewise_work_len (by decide) c_T_ewise_work_inj))<|And.intro (@c_inj_iff _ _ c_T_soft_number_inj)<|And.intro (@lm_inj_iff _ _ (inj_avf (inj_fm c_T_soft_number_len (by decide) c_T_soft_number_inj)))<|And.intro (@fm_inj_iff _ _ (inj_fm c_T_soft_number_len (by decide) c_T_soft_number_inj))<|And.intro (@c_inj_iff _ _ c_T_round_number_inj)<|And.intro (@lm_inj_iff _ _ (inj_avf (inj_fm c_T_round_number_len (by decide) c_T_round_number_inj)))<|And.intro (@fm_inj_iff _ _ (inj_fm c_T_round_number_len (by decide) c_T_round_number_inj))<|And.intro (@c_inj_iff _ _ c_T_round_wide_inj)<|And.intro (@lm_inj_iff _ _ (inj_avf (inj_fm c_T_round_wide_len (by decide) c_T_round_wide_inj)))<|(@fm_inj_iff _ _ (inj_fm c_T_round_wide_len (by decide) c_T_round_wide_inj))
theorem Zi{p:Prop}(h:p:=by intro a b h;first|(exact rfl)|(simp only[INJ,IJ]at h;first|exact h|(simp_all [Prod.ext_iff]))):p:=h
theorem kifQ{c:Prop}[Decidable c]{Q:AV->Prop}{F G:AV}(h1:Q F)(h2:Q G):Q (if c then F else G):=by split <;> assumption
def fnApp(cp:CallP)(ys:List AV):AV→Option AV
  | .fn k first cap=>cp k (first++ys++cap)
  |_=>none
def kcap{α:Type}(c:α→List AV):Option α→List AV
  |none=>[]
  |some s=>[.ref (c s) 0]
theorem kif{c:Prop}[Decidable c]{β:Type}{A B:Option β}{r:β}{Q:AV→Prop}{F G:AV}(h1:A=some r→Q F)(h2:B=some r→Q G)(h:(if c then A else B)=some r):Q (if c then F else G):=by
  by_cases hc:c
  · rw[if_pos hc]at h ⊢;exact h1 h
  · rw[if_neg hc]at h ⊢;exact h2 h
theorem fnX_app{C:Cfg}{cp:CallP}{ci:CallI}{lvl dd:Nat}{h:Heap}{k:FuncId}{cap:List AV}{u v:Value}(hi:C.inl k=false)(hc:Capt cap)(hu: ∀ g,exportV g 4 (.v u)=some (.v u):=by intro g;rfl)(hv: ∀ g,exportV g 4 (.v v)=some (.v v):=by intro g;rfl):fnX C cp ci lvl dd h (some [.v u,.v v]) (.fn k [] cap)=callX lvl dd h ((fnApp cp [.v u,.v v] (.fn k [] cap)).map fun r=>(r,[])):=by
  rw[fnX_at hi]
  have h1:optL (exportV h.get 4) ([]++[AV.v u,.v v]++cap)=some ([AV.v u,.v v]++cap):=by
    simp only[List.nil_append,List.cons_append,optL_cons,hu,hv,hc.e4,Option.bind_some]
  have h2:(([]++[AV.v u,.v v]++cap).map (borrowed h.get 4)).flatten=[]:=by
    simp[borrowed,hc.b4]
  unfold acallP
  rw[h1,h2]
  simp only[Option.bind_some,fnApp,List.nil_append,List.isEmpty_nil,if_true]
  cases cp k ([AV.v u,.v v]++cap) <;> rfl
theorem fnQ_app{C:Cfg}{cp:CallP}{g:Id→Option Blk}{k:FuncId}{cap:List AV}{u v:Value}(hi:C.inl k=false)(hc:Capt cap)(hu: ∀ g,exportV g 4 (.v u)=some (.v u):=by intro g;rfl)(hv: ∀ g,exportV g 4 (.v v)=some (.v v):=by intro g;rfl):fnQ C cp g (some [.v u,.v v]) (.fn k [] cap)=fnApp cp [.v u,.v v] (.fn k [] cap):=by
  rw[fnQ_at hi]
  have h1:optL (exportV g 4) ([]++[AV.v u,.v v]++cap)=some ([AV.v u,.v v]++cap):=by
    simp only[List.nil_append,List.cons_append,optL_cons,hu,hv,hc.e4,Option.bind_some]
  have h2:(([]++[AV.v u,.v v]++cap).map (borrowed g 4)).flatten=[]:=by
    simp[borrowed,hc.b4]
  unfold acallP
  rw[h1,h2]
  simp only[Option.bind_some,fnApp,List.nil_append,List.isEmpty_nil,if_true]
  cases cp k ([AV.v u,.v v]++cap) <;> rfl
def ZG:=And.intro ZZ<|And.intro RU<|And.intro @go_seq<|And.intro @ret_seq<|And.intro @Nat.sub_zero @Nat.zero_le
def ZN:=And.intro ZZ RU
theorem Jg{β:Type}{m m':Option AV}{s:Option β}{enc:β->AV}(j:J m' s enc)(h:m=m':=by conv=>lhs;try simp (maxSteps:=20000000) (disch:=first|exact Zd|fail) only[ZG,simprocAttr, *]):J m s enc:=J.eq h j
theorem Jn{β:Type}{m m':Option AV}{s:Option β}{enc:β->AV}{i:Nat}{ρ τ:Type}{r:ρ}{fj:τ->Option β}(j:J m' (jn i r fj s) enc)(h:m=m':=by conv=>lhs;simp (maxSteps:=20000000) (disch:=first|exact Zd|fail) only[ZN,simprocAttr, *]):J m (jn i r fj s) enc:=J.eq h j
theorem Jk{β:Type}{m m':Option AV}{s:Option β}{enc:β->AV}{i:Nat}{ρ τ:Type}{r:ρ}{fj:τ->Option β}(j:J m' (jc i r fj s) enc)(h:m=m':=by conv=>lhs;simp (maxSteps:=20000000) (disch:=first|exact Zd|fail) only[ZN,simprocAttr, *]):J m (jc i r fj s) enc:=J.eq h j
theorem Jl{β:Type}{m m':Option AV}{enc:β->AV}{σ:Type}{body:(σ->Option β)->σ->Option β}{k:Nat}{s0:σ}(j:J m' (cloop body k s0) enc)(h:m=m':=by conv=>lhs;simp (maxSteps:=20000000) (disch:=first|exact Zd|fail) only[ZN,simprocAttr, *]):J m (cloop body k s0) enc:=J.eq h j
theorem Jw{p:Prop}(h:p:=by simp (maxSteps:=20000000) (disch:=first|exact Zd|fail) only[ZG,simprocAttr,FN, *]):p:=h
theorem Zx{p:Prop}(h:p:=by first|rfl|(simp only[LN,NN,NT];done)|(simp (disch:=first|exact Zd|fail) only[RR,simprocAttr,LN,NN,NT];done)|(simp (disch:=first|exact Zd|fail) only[RR,simprocAttr,LN,fm_app,NN,NT];done)|(simp (maxSteps:=20000000) (disch:=first|exact Zd|fail) only[ZZ,simprocAttr,kinV_at,kinVB_at,FN, *];done)|(simp (maxSteps:=20000000) (disch:=first|exact Zd|fail) only[ZZ,simprocAttr,kinV_at,kinVB_at,fm_app,FN, *];done)):p:=h
theorem J.gi{β:Type}{m:Option AV}{s:Option β}{enc:β->AV}{c:Prop}{dd:Decidable c}{s1:Option β}(j:J m (if c then s else s1) enc):J m (if c then s else s1) enc:=j
theorem J.gj{β:Type}{m:Option AV}{s:Option β}{enc:β->AV}{i:Nat}{ρ τ:Type}{r:ρ}{fj:τ->Option β}(j:J m (jn i r fj s) enc):J m (jn i r fj s) enc:=j
theorem J.gk{β:Type}{m:Option AV}{s:Option β}{enc:β->AV}{i:Nat}{ρ τ:Type}{r:ρ}{fj:τ->Option β}(j:J m (jc i r fj s) enc):J m (jc i r fj s) enc:=j
theorem J.gl{β:Type}{m:Option AV}{enc:β->AV}{σ:Type}{body:(σ->Option β)->σ->Option β}{k:Nat}{s0:σ}(j:J m (cloop body k s0) enc):J m (cloop body k s0) enc:=j
theorem Wk{p:Prop}(h:p:=by repeat' first|with_reducible exact J.none|with_reducible refine J.chk λc=> ?_ |(with_reducible refine J.atI λr a b c d=> ?_;try simp only[Int.toNat_natCast,LN,Nat.sub_zero,Nat.zero_mul,Nat.zero_add,Nat.add_zero,List.drop_zero,simprocAttr]at b c d)|(with_reducible refine J.atB λr a b c d=> ?_;try simp only[Int.toNat_natCast,LN,Nat.sub_zero,Nat.zero_mul,Nat.zero_add,Nat.add_zero,List.drop_zero,simprocAttr]at b c d)|(with_reducible refine J.atL λr a b c d=> ?_;try simp only[Int.toNat_natCast,LN,Nat.sub_zero,Nat.zero_mul,Nat.zero_add,Nat.add_zero,List.drop_zero,simprocAttr]at b c d)|(with_reducible refine J.atN c_T_Tensor_len λr b c d=> ?_;try simp only[Int.toNat_natCast,LN,Nat.sub_zero,Nat.zero_mul,Nat.zero_add,Nat.add_zero,List.drop_zero,simprocAttr]at b c d)|(with_reducible refine J.atS c_T_Tensor_len λr a b c d=> ?_;try simp only[Int.toNat_natCast,LN,Nat.sub_zero,Nat.zero_mul,Nat.zero_add,Nat.add_zero,List.drop_zero,simprocAttr]at b c d)|(with_reducible refine J.atN c_T_Setting_len λr b c d=> ?_;try simp only[Int.toNat_natCast,LN,Nat.sub_zero,Nat.zero_mul,Nat.zero_add,Nat.add_zero,List.drop_zero,simprocAttr]at b c d)|(with_reducible refine J.atS c_T_Setting_len λr a b c d=> ?_;try simp only[Int.toNat_natCast,LN,Nat.sub_zero,Nat.zero_mul,Nat.zero_add,Nat.add_zero,List.drop_zero,simprocAttr]at b c d)|(with_reducible refine J.atN c_T_Val_len λr b c d=> ?_;try simp only[Int.toNat_natCast,LN,Nat.sub_zero,Nat.zero_mul,Nat.zero_add,Nat.add_zero,List.drop_zero,simprocAttr]at b c d)|(with_reducible refine J.atS c_T_Val_len λr a b c d=> ?_;try simp only[Int.toNat_natCast,LN,Nat.sub_zero,Nat.zero_mul,Nat.zero_add,Nat.add_zero,List.drop_zero,simprocAttr]at b c d)|(with_reducible refine J.atN c_T_infer_ask_len λr b c d=> ?_;try simp only[Int.toNat_natCast,LN,Nat.sub_zero,Nat.zero_mul,Nat.zero_add,Nat.add_zero,List.drop_zero,simprocAttr]at b c d)|(with_reducible refine J.atS c_T_infer_ask_len λr a b c d=> ?_;try simp only[Int.toNat_natCast,LN,Nat.sub_zero,Nat.zero_mul,Nat.zero_add,Nat.add_zero,List.drop_zero,simprocAttr]at b c d)|(with_reducible refine J.atN c_T_ewise_work_len λr b c d=> ?_;try simp only[Int.toNat_natCast,LN,Nat.sub_zero,Nat.zero_mul,Nat.zero_add,Nat.add_zero,List.drop_zero,simprocAttr]at b c d)|(with_reducible refine J.atS c_T_ewise_work_len λr a b c d=> ?_;try simp only[Int.toNat_natCast,LN,Nat.sub_zero,Nat.zero_mul,Nat.zero_add,Nat.add_zero,List.drop_zero,simprocAttr]at b c d)|(with_reducible refine J.atN c_T_soft_number_len λr b c d=> ?_;try simp only[Int.toNat_natCast,LN,Nat.sub_zero,Nat.zero_mul,Nat.zero_add,Nat.add_zero,List.drop_zero,simprocAttr]at b c d)|(with_reducible refine J.atS c_T_soft_number_len λr a b c d=> ?_;try simp only[Int.toNat_natCast,LN,Nat.sub_zero,Nat.zero_mul,Nat.zero_add,Nat.add_zero,List.drop_zero,simprocAttr]at b c d)|(with_reducible refine J.atN c_T_round_number_len λr b c d=> ?_;try simp only[Int.toNat_natCast,LN,Nat.sub_zero,Nat.zero_mul,Nat.zero_add,Nat.add_zero,List.drop_zero,simprocAttr]at b c d)|(with_reducible refine J.atS c_T_round_number_len λr a b c d=> ?_;try simp only[Int.toNat_natCast,LN,Nat.sub_zero,Nat.zero_mul,Nat.zero_add,Nat.add_zero,List.drop_zero,simprocAttr]at b c d)|(with_reducible refine J.atN c_T_round_wide_len λr b c d=> ?_;try simp only[Int.toNat_natCast,LN,Nat.sub_zero,Nat.zero_mul,Nat.zero_add,Nat.add_zero,List.drop_zero,simprocAttr]at b c d)|(with_reducible refine J.atS c_T_round_wide_len λr a b c d=> ?_;try simp only[Int.toNat_natCast,LN,Nat.sub_zero,Nat.zero_mul,Nat.zero_add,Nat.add_zero,List.drop_zero,simprocAttr]at b c d)|(with_reducible refine J.atM (c:=c_T_Tensor) λr a b c d=> ?_;try simp only[Int.toNat_natCast,LN,Nat.sub_zero,Nat.zero_mul,Nat.zero_add,Nat.add_zero,List.drop_zero,simprocAttr]at b c d)|(with_reducible refine J.atM (c:=c_T_Setting) λr a b c d=> ?_;try simp only[Int.toNat_natCast,LN,Nat.sub_zero,Nat.zero_mul,Nat.zero_add,Nat.add_zero,List.drop_zero,simprocAttr]at b c d)|(with_reducible refine J.atM (c:=c_T_Val) λr a b c d=> ?_;try simp only[Int.toNat_natCast,LN,Nat.sub_zero,Nat.zero_mul,Nat.zero_add,Nat.add_zero,List.drop_zero,simprocAttr]at b c d)|(with_reducible refine J.atM (c:=c_T_infer_ask) λr a b c d=> ?_;try simp only[Int.toNat_natCast,LN,Nat.sub_zero,Nat.zero_mul,Nat.zero_add,Nat.add_zero,List.drop_zero,simprocAttr]at b c d)|(with_reducible refine J.atM (c:=c_T_ewise_work) λr a b c d=> ?_;try simp only[Int.toNat_natCast,LN,Nat.sub_zero,Nat.zero_mul,Nat.zero_add,Nat.add_zero,List.drop_zero,simprocAttr]at b c d)|(with_reducible refine J.atM (c:=c_T_soft_number) λr a b c d=> ?_;try simp only[Int.toNat_natCast,LN,Nat.sub_zero,Nat.zero_mul,Nat.zero_add,Nat.add_zero,List.drop_zero,simprocAttr]at b c d)|(with_reducible refine J.atM (c:=c_T_round_number) λr a b c d=> ?_;try simp only[Int.toNat_natCast,LN,Nat.sub_zero,Nat.zero_mul,Nat.zero_add,Nat.add_zero,List.drop_zero,simprocAttr]at b c d)|(with_reducible refine J.atM (c:=c_T_round_wide) λr a b c d=> ?_;try simp only[Int.toNat_natCast,LN,Nat.sub_zero,Nat.zero_mul,Nat.zero_add,Nat.add_zero,List.drop_zero,simprocAttr]at b c d)|with_reducible refine J.sat λr a=> ?_ |((with_reducible refine J.bind λx h=> ?_);(first|with_reducible have e:=H1.ap h|with_reducible have e:=H2.ap h|with_reducible have e:=H3.ap h|with_reducible have e:=H4.ap h|with_reducible have e:=H5.ap h|with_reducible have e:=H6.ap h|with_reducible have e:=H7.ap h|with_reducible have e:=H8.ap h|with_reducible have e:=H9.ap h|with_reducible have e:=H10.ap h|with_reducible have e:=H11.ap h|with_reducible have e:=H12.ap h|with_reducible have e:=H13.ap h|with_reducible have e:=H14.ap h|with_reducible have e:=H15.ap h|with_reducible have e:=H16.ap h);try simp only[NN,NT,LN,simprocAttr,DT]at e)|(with_reducible refine J.some ?_;exact Jw)|(with_reducible refine J.gi ?_;refine Jg ?_;first|with_reducible refine J.iteLt (λh k=> ?_) (λh k=> ?_)|with_reducible refine J.iteLe (λh k=> ?_) (λh k=> ?_)|with_reducible refine J.iteEq (λh k l=> ?_) (λh=> ?_)|with_reducible refine J.iteB (λh=> ?_) (λh=> ?_)|with_reducible refine J.iteD (λh=> ?_) (λh=> ?_))|(first|with_reducible refine J.hd (W1.eq_1 ..) ?_ |with_reducible refine J.hd (W2.eq_1 ..) ?_ |with_reducible refine J.hd (W3.eq_1 ..) ?_)|(with_reducible refine J.gj ?_;first|(first|(refine J.joinT j1 rfl (by intro;conv=>lhs;simp (disch:=first|exact Zd|fail) only[j1,ZN,simprocAttr]) (by intro;conv=>lhs;simp (disch:=first|exact Zd|fail) only[j1,ZN,simprocAttr]) (λt=>J.hd (k1.eq_1 ..) ?_) (λa1=> ?_);all_goals try simp only[Prod.forall,unit_all]at a1)|(refine J.joinT j2 rfl (by intro;conv=>lhs;simp (disch:=first|exact Zd|fail) only[j2,ZN,simprocAttr]) (by intro;conv=>lhs;simp (disch:=first|exact Zd|fail) only[j2,ZN,simprocAttr]) (λt=>J.hd (k2.eq_1 ..) ?_) (λa2=> ?_);all_goals try simp only[Prod.forall,unit_all]at a2)|(refine J.joinT j3 rfl (by intro;conv=>lhs;simp (disch:=first|exact Zd|fail) only[j3,ZN,simprocAttr]) (by intro;conv=>lhs;simp (disch:=first|exact Zd|fail) only[j3,ZN,simprocAttr]) (λt=>J.hd (k3.eq_1 ..) ?_) (λa3=> ?_);all_goals try simp only[Prod.forall,unit_all]at a3)|(refine J.joinT j4 rfl (by intro;conv=>lhs;simp (disch:=first|exact Zd|fail) only[j4,ZN,simprocAttr]) (by intro;conv=>lhs;simp (disch:=first|exact Zd|fail) only[j4,ZN,simprocAttr]) (λt=>J.hd (k4.eq_1 ..) ?_) (λa4=> ?_);all_goals try simp only[Prod.forall,unit_all]at a4)|(refine J.joinT j5 rfl (by intro;conv=>lhs;simp (disch:=first|exact Zd|fail) only[j5,ZN,simprocAttr]) (by intro;conv=>lhs;simp (disch:=first|exact Zd|fail) only[j5,ZN,simprocAttr]) (λt=>J.hd (k5.eq_1 ..) ?_) (λa5=> ?_);all_goals try simp only[Prod.forall,unit_all]at a5)|refine J.sqj ?_ |refine J.rqj ?_)|(refine Jn ?_;first|(refine J.joinT j1 rfl (by intro;conv=>lhs;simp (disch:=first|exact Zd|fail) only[j1,ZN,simprocAttr]) (by intro;conv=>lhs;simp (disch:=first|exact Zd|fail) only[j1,ZN,simprocAttr]) (λt=>J.hd (k1.eq_1 ..) ?_) (λa1=> ?_);all_goals try simp only[Prod.forall,unit_all]at a1)|(refine J.joinT j2 rfl (by intro;conv=>lhs;simp (disch:=first|exact Zd|fail) only[j2,ZN,simprocAttr]) (by intro;conv=>lhs;simp (disch:=first|exact Zd|fail) only[j2,ZN,simprocAttr]) (λt=>J.hd (k2.eq_1 ..) ?_) (λa2=> ?_);all_goals try simp only[Prod.forall,unit_all]at a2)|(refine J.joinT j3 rfl (by intro;conv=>lhs;simp (disch:=first|exact Zd|fail) only[j3,ZN,simprocAttr]) (by intro;conv=>lhs;simp (disch:=first|exact Zd|fail) only[j3,ZN,simprocAttr]) (λt=>J.hd (k3.eq_1 ..) ?_) (λa3=> ?_);all_goals try simp only[Prod.forall,unit_all]at a3)|(refine J.joinT j4 rfl (by intro;conv=>lhs;simp (disch:=first|exact Zd|fail) only[j4,ZN,simprocAttr]) (by intro;conv=>lhs;simp (disch:=first|exact Zd|fail) only[j4,ZN,simprocAttr]) (λt=>J.hd (k4.eq_1 ..) ?_) (λa4=> ?_);all_goals try simp only[Prod.forall,unit_all]at a4)|(refine J.joinT j5 rfl (by intro;conv=>lhs;simp (disch:=first|exact Zd|fail) only[j5,ZN,simprocAttr]) (by intro;conv=>lhs;simp (disch:=first|exact Zd|fail) only[j5,ZN,simprocAttr]) (λt=>J.hd (k5.eq_1 ..) ?_) (λa5=> ?_);all_goals try simp only[Prod.forall,unit_all]at a5)|refine J.sqj ?_ |refine J.rqj ?_))|(with_reducible refine J.gl ?_;first|(first|refine J.loopT m1 rfl (by intro;conv=>lhs;simp (disch:=first|exact Zd|fail) only[m1,ZN,simprocAttr]) (by intro;conv=>lhs;simp (disch:=first|exact Zd|fail) only[m1,ZN,simprocAttr]) Zx Zx (λnext k n s=>J.hd (L1.eq_1 ..) ?_)|refine J.loopT m2 rfl (by intro;conv=>lhs;simp (disch:=first|exact Zd|fail) only[m2,ZN,simprocAttr]) (by intro;conv=>lhs;simp (disch:=first|exact Zd|fail) only[m2,ZN,simprocAttr]) Zx Zx (λnext k n s=>J.hd (L2.eq_1 ..) ?_)|refine J.loopT m3 rfl (by intro;conv=>lhs;simp (disch:=first|exact Zd|fail) only[m3,ZN,simprocAttr]) (by intro;conv=>lhs;simp (disch:=first|exact Zd|fail) only[m3,ZN,simprocAttr]) Zx Zx (λnext k n s=>J.hd (L3.eq_1 ..) ?_)|refine J.sql ?_ |refine J.rql ?_)|(refine Jl ?_;first|refine J.loopT m1 rfl (by intro;conv=>lhs;simp (disch:=first|exact Zd|fail) only[m1,ZN,simprocAttr]) (by intro;conv=>lhs;simp (disch:=first|exact Zd|fail) only[m1,ZN,simprocAttr]) Zx Zx (λnext k n s=>J.hd (L1.eq_1 ..) ?_)|refine J.loopT m2 rfl (by intro;conv=>lhs;simp (disch:=first|exact Zd|fail) only[m2,ZN,simprocAttr]) (by intro;conv=>lhs;simp (disch:=first|exact Zd|fail) only[m2,ZN,simprocAttr]) Zx Zx (λnext k n s=>J.hd (L2.eq_1 ..) ?_)|refine J.loopT m3 rfl (by intro;conv=>lhs;simp (disch:=first|exact Zd|fail) only[m3,ZN,simprocAttr]) (by intro;conv=>lhs;simp (disch:=first|exact Zd|fail) only[m3,ZN,simprocAttr]) Zx Zx (λnext k n s=>J.hd (L3.eq_1 ..) ?_)|refine J.sql ?_ |refine J.rql ?_))|(refine Jg ?_;first|((with_reducible apply a1) <;> first|exact()|exact Zx)|((with_reducible apply a2) <;> first|exact()|exact Zx)|((with_reducible apply a3) <;> first|exact()|exact Zx)|((with_reducible apply a4) <;> first|exact()|exact Zx)|((with_reducible apply a5) <;> first|exact()|exact Zx)|((with_reducible apply b1) <;> first|exact()|exact Zx)|((with_reducible apply b2) <;> first|exact()|exact Zx)|((with_reducible apply b3) <;> first|exact()|exact Zx)|((with_reducible apply b4) <;> first|exact()|exact Zx)|((with_reducible apply b5) <;> first|exact()|exact Zx)|refine J.nextT (by assumption) Zx Zx)):p:=h
open Aw (d14)
def d14_at:=by have h:=tabL Aw.d14.eq_1;simp only[AllAt,Nat.zero_add,Nat.reduceAdd]at h;exact h
theorem i14:finfo prog 14 d14=some ⟨bodyOf Tryz.f14,[.tmp 2],[4]⟩:=fA Tryz.func14
def e14:Bool->AV:=λr=> .v (.bool r)
theorem w14(cp:CallP)(fu:Nat)(x1:Int):J (go prog noC cp noI 0 [] d14 fu (fin prog [.tmp 2] [4]) (bodyOf Tryz.f14) (initE 0 [.v (.int .i64 x1)]) [] []) (ewise_Has fu x1) e14:=by
 unfold ewise_Has e14
 have da:=d14_at
 conv=>arg 1;simp only[bodyOf,Tryz.f14]
 have z0:=d14_at
 exact Wk
theorem ok14(fu:Nat)(x1:Int)(r)(h:ewise_Has fu x1=some r):PureOK prog 14 [.v (.int .i64 x1)] (e14 r):=pureT mixed [] (ids:=[]) rfl (by decide) i14 (C:=noC) (ci:=λcp=>noI) (λcp ok=>noI_ok) (λcp H=>w14 cp fu x1) h
open Aw (d172)
def d172_at:=by have h:=tabL Aw.d172.eq_1;simp only[AllAt,Nat.zero_add,Nat.reduceAdd]at h;exact h
theorem i172:finfo prog 172 d172=some ⟨bodyOf Tryz.f172,[.tmp 2],[3]⟩:=fA Tryz.func172
def e172:Int->AV:=λr=> .v (.int .i64 r)
theorem w172(cp:CallP)(fu:Nat)(x1:Int):J (go prog noC cp noI 0 [] d172 fu (fin prog [.tmp 2] [3]) (bodyOf Tryz.f172) (initE 0 [.v (.int .i64 x1)]) [] []) (tens_Width fu x1) e172:=by
 unfold tens_Width e172
 have da:=d172_at
 conv=>arg 1;simp only[bodyOf,Tryz.f172]
 have z0:=d172_at
 exact Wk
theorem ok172(fu:Nat)(x1:Int)(r)(h:tens_Width fu x1=some r):PureOK prog 172 [.v (.int .i64 x1)] (e172 r):=pureT mixed [] (ids:=[]) rfl (by decide) i172 (C:=noC) (ci:=λcp=>noI) (λcp ok=>noI_ok) (λcp H=>w172 cp fu x1) h
open Aw (d106)
def d106_at:=by have h:=tabL Aw.d106.eq_1;simp only[AllAt,Nat.zero_add,Nat.reduceAdd]at h;exact h
theorem i106:finfo prog 106 d106=some ⟨bodyOf Tryz.f106,[.tmp 2],[4]⟩:=fA Tryz.func106
def e106:Bool->AV:=λr=> .v (.bool r)
structure K172 (fu:Nat) (cp:CallP):Prop where
 ap: ∀ {a0:Int} {r},tens_Width fu a0=some r->cp 172 [.v (.int .i64 a0)]=some (.v (.int .i64 r))
noncomputable def C172(fu:Nat):Cm prog Int Int:=⟨172,λt=>[.v (.int .i64 t)],λt=>tens_Width fu t,e172,λt b h=>ok172 fu t b h,Zi⟩
theorem u172{fu:Nat}{cp:CallP}(H:Hit cp (C172 fu).ct):K172 fu cp:=⟨λ {a0 r} h=>(C172 fu).at H a0 r h⟩
theorem w106(cp:CallP)(fu:Nat)(x1:Int)(H1:K172 fu cp):J (go prog noC cp noI 0 [] d106 fu (fin prog [.tmp 2] [4]) (bodyOf Tryz.f106) (initE 0 [.v (.int .i64 x1)]) [] []) (tens_known fu x1) e106:=by
 unfold tens_known e106
 have da:=d106_at
 conv=>arg 1;simp only[bodyOf,Tryz.f106]
 have z0:=d106_at
 exact Wk
theorem ok106(fu:Nat)(x1:Int)(r)(h:tens_known fu x1=some r):PureOK prog 106 [.v (.int .i64 x1)] (e106 r):=pureT mixed [(C172 fu).ct] (ids:=[172]) rfl (by decide) i106 (C:=noC) (ci:=λcp=>noI) (λcp ok=>noI_ok) (λcp H=>w106 cp fu x1 (u172 H.1)) h
open Aw (d151)
def d151_at:=by have h:=tabL Aw.d151.eq_1;simp only[AllAt,Nat.zero_add,Nat.reduceAdd]at h;exact h
theorem i151:finfo prog 151 d151=some ⟨bodyOf Tryz.f151,[.tmp 4],[3]⟩:=fA Tryz.func151
def e151:Int->AV:=λr=> .v (.int .i64 r)
theorem w151(cp:CallP)(fu:Nat)(x1:List Int)(p1:Int→Option Bool)(fv_p1:FuncId)(ca_p1:List AV)(cap_p1:Capt ca_p1)(hp_p1: ∀ (y0:Int) r,p1 y0=some r→cp fv_p1 ((.v (.int .i64 y0))::ca_p1)=some (.v (.bool r))):J (go prog noC cp noI 0 [] d151 fu (fin prog [.tmp 4] [3]) (bodyOf Tryz.f151) (initE 0 [.arr x1.length (lm (ik .i64) x1),.fn fv_p1 [] ca_p1]) [] []) (slices_IndexFunc_int fu x1 p1) e151:=by
 unfold slices_IndexFunc_int e151
 have da:=d151_at
 have c4_p1:=λg=>(cap_p1.1 g).1;have c3_p1:=λg=>(cap_p1.1 g).2.1;have b4_p1:=λg=>(cap_p1.1 g).2.2.1;have b3_p1:=λg=>(cap_p1.1 g).2.2.2;have nm_p1:=cap_p1.2
 conv=>arg 1;simp (disch:=first|exact Zd|fail) only[bodyOf,Tryz.f151,ZZ,d151_at,simprocAttr,c4_p1,c3_p1,b4_p1,b3_p1,nm_p1]
 refine J.eq go_seq ?_
 conv=>arg 1;simp (disch:=first|exact Zd|fail) only[ZZ,d151_at,simprocAttr,c4_p1,c3_p1,b4_p1,b3_p1,nm_p1]
 unfold slices_IndexFunc_int.W1
 refine J.loop (λ(s:Int)=>([(0,.arr x1.length (lm (ik .i64) x1)),(1,.fn fv_p1 [] ca_p1),(7,.v (.int .i64 (x1.length:Int))),(8,.v (.int .i64 s))],[])) (λnext s=>slices_IndexFunc_int.L1 fu p1 x1 next s) (s0:=0) ?_ ?_ ?_
 ·exact Ze
 ·exact Zh
 rintro nx1 k1 hn1 x4
 show J _ (slices_IndexFunc_int.L1 fu p1 x1 nx1 x4) _
 unfold slices_IndexFunc_int.L1
 conv=>arg 1;simp (disch:=first|exact Zd|fail) only[ZZ,d151_at,simprocAttr,c4_p1,c3_p1,b4_p1,b3_p1,nm_p1]
 refine J.eq go_seq ?_
 conv=>arg 1;simp (disch:=first|exact Zd|fail) only[ZZ,d151_at,simprocAttr,c4_p1,c3_p1,b4_p1,b3_p1,nm_p1]
 refine J.ite (λh1=> ?_) (λh1=> ?_)
 ·have h1':=decide_eq_true h1
  have h1'':decide ((x1.length:Int)<=x4)=false:=decide_eq_false (by omega)
  conv=>arg 1;simp (disch:=first|exact Zd|fail) only[ZZ,d151_at,simprocAttr,c4_p1,c3_p1,b4_p1,b3_p1,nm_p1,h1'',h1']
  refine J.eq ret_seq ?_
  refine J.eq go_seq ?_
  refine J.at λx7 h2 h3 h4=> ?_
  refine J.bind λx8 h5=> ?_
  have e_h5:=hp_p1 _ _ h5
  try simp only[NN,NT,LN,simprocAttr,DT]at e_h5
  conv=>arg 1;simp (disch:=first|exact Zd|fail) only[ZZ,d151_at,simprocAttr,c4_p1,c3_p1,b4_p1,b3_p1,nm_p1,h1'',h1',lm_ik h4,e_h5]
  refine J.ite (λh6=> ?_) (λh6=> ?_)
  ·have h6':x8=true:=h6
   refine J.some ?_
   simp (maxSteps:=20000000) (disch:=first|exact Zd|fail) only[ZZ,d151_at,simprocAttr,c4_p1,c3_p1,b4_p1,b3_p1,nm_p1,h1'',h1',lm_ik h4,e_h5,h6',FN]
  ·have h6':x8=false:=Bool.eq_false_iff.2 h6
   conv=>arg 1;simp (disch:=first|exact Zd|fail) only[ZZ,d151_at,simprocAttr,c4_p1,c3_p1,b4_p1,b3_p1,nm_p1,h1'',h1',lm_ik h4,e_h5,h6']
   refine J.eq ret_seq ?_
   conv=>arg 1;simp (disch:=first|exact Zd|fail) only[ZZ,d151_at,simprocAttr,c4_p1,c3_p1,b4_p1,b3_p1,nm_p1,h1'',h1',lm_ik h4,e_h5,h6']
   refine J.next (s:=wk .i64 (x4+1)) hn1 ?_ ?_
   ·exact Ze
   ·exact Zh
 ·have h1':=decide_eq_false h1
  have h1'':decide ((x1.length:Int)<=x4)=true:=decide_eq_true (by omega)
  conv=>arg 1;simp (disch:=first|exact Zd|fail) only[ZZ,d151_at,simprocAttr,c4_p1,c3_p1,b4_p1,b3_p1,nm_p1,h1'',h1']
  refine J.eq ret_seq ?_
  refine J.some ?_
  simp (maxSteps:=20000000) (disch:=first|exact Zd|fail) only[ZZ,d151_at,simprocAttr,c4_p1,c3_p1,b4_p1,b3_p1,nm_p1,h1'',h1',FN]
noncomputable def t151(fu:Nat)(x1:List Int)(p1:Int->Option Bool)(fv_p1:FuncId)(ca_p1:List AV):CallP:=orE fv_p1 (mkC (λ(t:Int)=>((.v (.int .i64 t))::ca_p1:List AV)) (λt=>p1 t) (λr=> .v (.bool r))) (noP)
theorem t151_ok(fu:Nat)(x1:List Int)(p1:Int->Option Bool)(fv_p1:FuncId)(ca_p1:List AV)(cap_p1:Capt ca_p1)(hp_p1: ∀ (y0:Int) r,p1 y0=some r->PureOK prog fv_p1 ((.v (.int .i64 y0))::ca_p1) (.v (.bool r))):CpOK prog (t151 fu x1 p1 fv_p1 ca_p1):=orE_ok (noP_ok) (mkC_ok (λt b h=>hp_p1 t b h))
theorem ok151(fu:Nat)(x1:List Int)(p1:Int→Option Bool)(fv_p1:FuncId)(ca_p1:List AV)(cap_p1:Capt ca_p1)(hp_p1: ∀ (y0:Int) r,p1 y0=some r→PureOK prog fv_p1 ((.v (.int .i64 y0))::ca_p1) (.v (.bool r)))(r)(h:slices_IndexFunc_int fu x1 p1=some r):PureOK prog 151 [.arr x1.length (lm (ik .i64) x1),.fn fv_p1 [] ca_p1] (e151 r):=
  pure_J mixed (cp:=t151 fu x1 p1 fv_p1 ca_p1) (t151_ok fu x1 p1 fv_p1 ca_p1 cap_p1 hp_p1) noI_ok i151 (w151 _ fu x1 p1 fv_p1 ca_p1 cap_p1 (λy0 r h=>orE_hit (mkC_at (a:=y0) (by intro a b h;first|(exact rfl)|(simp only[INJ,IJ]at h;first|exact h|(simp_all [Prod.ext_iff]))) h))) h
open Aw (d66)
def d66_at:=by have h:=tabL Aw.d66.eq_1;simp only[AllAt,Nat.zero_add,Nat.reduceAdd]at h;exact h
theorem i66:finfo prog 66 d66=some ⟨bodyOf Tryz.f66,[.tmp 4],[4]⟩:=fA Tryz.func66
def e66:Bool->AV:=λr=> .v (.bool r)
theorem w66(cp:CallP)(fu:Nat)(x1:List Int)(p1:Int→Option Bool)(fv_p1:FuncId)(ca_p1:List AV)(cap_p1:Capt ca_p1)(hp_p1: ∀ (y0:Int) r,p1 y0=some r→cp fv_p1 ((.v (.int .i64 y0))::ca_p1)=some (.v (.bool r)))(H151_0: ∀ (a0:List Int) r,slices_IndexFunc_int fu a0 p1=some r→cp 151 [.arr a0.length (lm (ik .i64) a0),.fn fv_p1 [] ca_p1]=some (.v (.int .i64 r))):J (go prog noC cp noI 0 [] d66 fu (fin prog [.tmp 4] [4]) (bodyOf Tryz.f66) (initE 0 [.arr x1.length (lm (ik .i64) x1),.fn fv_p1 [] ca_p1]) [] []) (slices_ContainsFunc_int fu x1 p1) e66:=by
 unfold slices_ContainsFunc_int e66
 have da:=d66_at
 have c4_p1:=λg=>(cap_p1.1 g).1;have c3_p1:=λg=>(cap_p1.1 g).2.1;have b4_p1:=λg=>(cap_p1.1 g).2.2.1;have b3_p1:=λg=>(cap_p1.1 g).2.2.2;have nm_p1:=cap_p1.2
 refine J.bind λx2 h1=> ?_
 have e_h1:=H151_0 _ _ h1
 try simp only[NN,NT,LN,simprocAttr,DT]at e_h1
 refine J.some ?_
 simp (maxSteps:=20000000) (disch:=first|exact Zd|fail) only[bodyOf,Tryz.f66,ZZ,d66_at,simprocAttr,c4_p1,c3_p1,b4_p1,b3_p1,nm_p1,e_h1,FN]
noncomputable def t66(fu:Nat)(x1:List Int)(p1:Int->Option Bool)(fv_p1:FuncId)(ca_p1:List AV):CallP:=orE 151 (mkC (λ(t:List Int)=>([.arr t.length (lm (ik .i64) t),.fn fv_p1 [] ca_p1]:List AV)) (λt=>slices_IndexFunc_int fu t p1) e151) (orE fv_p1 (mkC (λ(t:Int)=>((.v (.int .i64 t))::ca_p1:List AV)) (λt=>p1 t) (λr=> .v (.bool r))) (noP))
theorem t66_ok(fu:Nat)(x1:List Int)(p1:Int->Option Bool)(fv_p1:FuncId)(ca_p1:List AV)(cap_p1:Capt ca_p1)(hp_p1: ∀ (y0:Int) r,p1 y0=some r->PureOK prog fv_p1 ((.v (.int .i64 y0))::ca_p1) (.v (.bool r))):CpOK prog (t66 fu x1 p1 fv_p1 ca_p1):=orE_ok (orE_ok (noP_ok) (mkC_ok (λt b h=>hp_p1 t b h))) (mkC_ok (λt b h=>ok151 fu t p1 fv_p1 ca_p1 cap_p1 hp_p1 b h))
theorem ok66(fu:Nat)(x1:List Int)(p1:Int→Option Bool)(fv_p1:FuncId)(ca_p1:List AV)(cap_p1:Capt ca_p1)(hp_p1: ∀ (y0:Int) r,p1 y0=some r→PureOK prog fv_p1 ((.v (.int .i64 y0))::ca_p1) (.v (.bool r)))(r)(h:slices_ContainsFunc_int fu x1 p1=some r):PureOK prog 66 [.arr x1.length (lm (ik .i64) x1),.fn fv_p1 [] ca_p1] (e66 r):=
  pure_J mixed (cp:=t66 fu x1 p1 fv_p1 ca_p1) (t66_ok fu x1 p1 fv_p1 ca_p1 cap_p1 hp_p1) noI_ok i66 (w66 _ fu x1 p1 fv_p1 ca_p1 cap_p1 (λy0 r h=>orE_skip (λhfv=>mkC_none (by intro t h;simp at h)) (orE_hit (mkC_at (a:=y0) (by intro a b h;first|(exact rfl)|(simp only[INJ,IJ]at h;first|exact h|(simp_all [Prod.ext_iff]))) h))) (λa0 r h=>orE_hit (mkC_at (a:=a0) (by intro a b h;first|(exact rfl)|(simp only[INJ,IJ]at h;first|exact h|(simp_all [Prod.ext_iff]))) h))) h
open Aw (d112)
def d112_at:=by have h:=tabL Aw.d112.eq_1;simp only[AllAt,Nat.zero_add,Nat.reduceAdd]at h;exact h
theorem i112:finfo prog 112 d112=some ⟨bodyOf Tryz.f112,[.tmp 2],[4]⟩:=fA Tryz.func112
def e112:Bool->AV:=λr=> .v (.bool r)
theorem w112(cp:CallP)(fu:Nat)(x1:Int):J (go prog noC cp noI 0 [] d112 fu (fin prog [.tmp 2] [4]) (bodyOf Tryz.f112) (initE 0 [.v (.int .i64 x1)]) [] []) (shape_Size_1 fu x1) e112:=by
 unfold shape_Size_1 e112
 have da:=d112_at
 conv=>arg 1;simp only[bodyOf,Tryz.f112]
 have z0:=d112_at
 exact Wk
theorem ok112(fu:Nat)(x1:Int)(r)(h:shape_Size_1 fu x1=some r):PureOK prog 112 [.v (.int .i64 x1)] (e112 r):=pureT mixed [] (ids:=[]) rfl (by decide) i112 (C:=noC) (ci:=λcp=>noI) (λcp ok=>noI_ok) (λcp H=>w112 cp fu x1) h
open Aw (d113)
def d113_at:=by have h:=tabL Aw.d113.eq_1;simp only[AllAt,Nat.zero_add,Nat.reduceAdd]at h;exact h
theorem i113:finfo prog 113 d113=some ⟨bodyOf Tryz.f113,[.tmp 2],[4]⟩:=fA Tryz.func113
def e113:Bool->AV:=λr=> .v (.bool r)
theorem w113(cp:CallP)(fu:Nat)(x1:Int):J (go prog noC cp noI 0 [] d113 fu (fin prog [.tmp 2] [4]) (bodyOf Tryz.f113) (initE 0 [.v (.int .i64 x1)]) [] []) (shape_Size_2 fu x1) e113:=by
 unfold shape_Size_2 e113
 have da:=d113_at
 conv=>arg 1;simp only[bodyOf,Tryz.f113]
 have z0:=d113_at
 exact Wk
theorem ok113(fu:Nat)(x1:Int)(r)(h:shape_Size_2 fu x1=some r):PureOK prog 113 [.v (.int .i64 x1)] (e113 r):=pureT mixed [] (ids:=[]) rfl (by decide) i113 (C:=noC) (ci:=λcp=>noI) (λcp ok=>noI_ok) (λcp H=>w113 cp fu x1) h
open Aw (d191)
def d191_at:=by have h:=tabL Aw.d191.eq_1;simp only[AllAt,Nat.zero_add,Nat.reduceAdd]at h;exact h
theorem i191:finfo prog 191 d191=some ⟨bodyOf Tryz.f191,[.tmp 4],[3]⟩:=fA Tryz.func191
def e191:Int->AV:=λr=> .v (.int .i64 r)
def slices_Index_int.m1:LJ 1 4 Unit Int:=⟨λr s e=>[(0,er e 0),(1,er e 1),(7,er e 7),(8,.v (.int .i64 s))],λr s h=>[]⟩
open slices_Index_int in
theorem w191(cp:CallP)(fu:Nat)(x1:List Int)(x2:Int):J (go prog noC cp noI 0 [] d191 fu (fin prog [.tmp 4] [3]) (bodyOf Tryz.f191) (initE 0 [.arr x1.length (lm (ik .i64) x1),.v (.int .i64 x2)]) [] []) (slices_Index_int fu x1 x2) e191:=by
 unfold slices_Index_int e191
 have da:=d191_at
 conv=>arg 1;simp only[bodyOf,Tryz.f191]
 have z0:=d191_at
 exact Wk
theorem ok191(fu:Nat)(x1:List Int)(x2:Int)(r)(h:slices_Index_int fu x1 x2=some r):PureOK prog 191 [.arr x1.length (lm (ik .i64) x1),.v (.int .i64 x2)] (e191 r):=pureT mixed [] (ids:=[]) rfl (by decide) i191 (C:=noC) (ci:=λcp=>noI) (λcp ok=>noI_ok) (λcp H=>w191 cp fu x1 x2) h
open Aw (d114)
def d114_at:=by have h:=tabL Aw.d114.eq_1;simp only[AllAt,Nat.zero_add,Nat.reduceAdd]at h;exact h
theorem i114:finfo prog 114 d114=some ⟨bodyOf Tryz.f114,[.tmp 4],[4]⟩:=fA Tryz.func114
def e114:Bool->AV:=λr=> .v (.bool r)
structure K191 (fu:Nat) (cp:CallP):Prop where
 ap: ∀ {a0:List Int} {a1:Int} {r},slices_Index_int fu a0 a1=some r->cp 191 [.arr a0.length (lm (ik .i64) a0),.v (.int .i64 a1)]=some (.v (.int .i64 r))
noncomputable def C191(fu:Nat):Cm prog ((List Int)×Int) Int:=⟨191,λt=>[.arr t.1.length (lm (ik .i64) t.1),.v (.int .i64 t.2)],λt=>slices_Index_int fu t.1 t.2,e191,λt b h=>ok191 fu t.1 t.2 b h,Zi⟩
theorem u191{fu:Nat}{cp:CallP}(H:Hit cp (C191 fu).ct):K191 fu cp:=⟨λ {a0 a1 r} h=>(C191 fu).at H (a0,a1) r h⟩
theorem w114(cp:CallP)(fu:Nat)(x1:List Int)(x2:Int)(H1:K191 fu cp):J (go prog noC cp noI 0 [] d114 fu (fin prog [.tmp 4] [4]) (bodyOf Tryz.f114) (initE 0 [.arr x1.length (lm (ik .i64) x1),.v (.int .i64 x2)]) [] []) (slices_Contains_int fu x1 x2) e114:=by
 unfold slices_Contains_int e114
 have da:=d114_at
 conv=>arg 1;simp only[bodyOf,Tryz.f114]
 have z0:=d114_at
 exact Wk
theorem ok114(fu:Nat)(x1:List Int)(x2:Int)(r)(h:slices_Contains_int fu x1 x2=some r):PureOK prog 114 [.arr x1.length (lm (ik .i64) x1),.v (.int .i64 x2)] (e114 r):=pureT mixed [(C191 fu).ct] (ids:=[191]) rfl (by decide) i114 (C:=noC) (ci:=λcp=>noI) (λcp ok=>noI_ok) (λcp H=>w114 cp fu x1 x2 (u191 H.1)) h
open Aw (d54)
def d54_at:=by have h:=tabL Aw.d54.eq_1;simp only[AllAt,Nat.zero_add,Nat.reduceAdd]at h;exact h
theorem i54:finfo prog 54 d54=some ⟨bodyOf Tryz.f54,[.tmp 2,.tmp 3],[3,34]⟩:=fA Tryz.func54
def e54:(Int×Int)->AV:=λr=> .tuple [.v (.int .i64 r.1),.v (.int .i64 r.2)]
theorem w54(cp:CallP)(fu:Nat)(x1:List Int)(H66_0: ∀ (a0:List Int) r,slices_ContainsFunc_int fu a0 (fun y0=>shape_Size_1 fu y0)=some r→cp 66 [.arr a0.length (lm (ik .i64) a0),.fn 112 [] []]=some (.v (.bool r)))(H66_1: ∀ (a0:List Int) r,slices_ContainsFunc_int fu a0 (fun y0=>shape_Size_2 fu y0)=some r→cp 66 [.arr a0.length (lm (ik .i64) a0),.fn 113 [] []]=some (.v (.bool r)))(H114_0: ∀ (a0:List Int) (a1:Int) r,slices_Contains_int fu a0 a1=some r→cp 114 [.arr a0.length (lm (ik .i64) a0),.v (.int .i64 a1)]=some (.v (.bool r))):J (go prog noC cp noI 0 [] d54 fu (fin prog [.tmp 2,.tmp 3] [3,34]) (bodyOf Tryz.f54) (initE 0 [.arr x1.length (lm (ik .i64) x1)]) [] []) (shape_Size fu x1) e54:=by
 unfold shape_Size e54
 have da:=d54_at
 conv=>arg 1;simp (disch:=first|exact Zd|fail) only[bodyOf,Tryz.f54,ZZ,d54_at,simprocAttr]
 refine J.eq go_seq ?_
 refine J.bind λx2 h1=> ?_
 have e_h1:=H66_0 _ _ h1
 try simp only[NN,NT,LN,simprocAttr,DT]at e_h1
 refine Jc ?_
 refine J.ite (λh2=> ?_) (λh2=> ?_)
 ·have h2':x2=true:=h2
  refine J.some ?_
  exact Js
 ·have h2':x2=false:=Bool.eq_false_iff.2 h2
  refine Jc ?_
  refine J.eq ret_seq ?_
  refine J.joinS (λ(t:Unit)=>([(0,.arr x1.length (lm (ik .i64) x1))],[])) (λt=>shape_Size.k1 fu x1) ?_ (λhj1=> ?_)
  ·rintro⟨⟩
   show J _ (shape_Size.k1 fu x1) _
   unfold shape_Size.k1
   refine J.eq go_seq ?_
   refine J.bind λx3 h3=> ?_
   have e_h3:=H114_0 _ _ _ h3
   try simp only[NN,NT,LN,simprocAttr,DT]at e_h3
   refine Jc ?_
   refine J.ite (λh4=> ?_) (λh4=> ?_)
   ·have h4':x3=true:=h4
    refine J.some ?_
    exact Js
   ·have h4':x3=false:=Bool.eq_false_iff.2 h4
    refine Jc ?_
    refine J.eq ret_seq ?_
    refine Jc ?_
    refine J.eq go_seq ?_
    refine Jc ?_
    unfold shape_Size.W1
    refine J.loop (λ(s:Int×Int)=>([(4,.v (.int .i64 s.1)),(18,.arr x1.length (lm (ik .i64) x1)),(19,.v (.int .i64 (x1.length:Int))),(20,.v (.int .i64 s.2))],[])) (λnext s=>shape_Size.L1 fu x1 (λx5 x6=>next (x5,x6)) s.1 s.2) (s0:=(1,0)) ?_ ?_ ?_
    ·exact Ze
    ·exact Zh
    rintro next k1 hn1 ⟨x5,x6⟩
    let nx1:Int->Int->Option (Int×Int):=(λx5 x6=>next (x5,x6))
    show J _ (shape_Size.L1 fu x1 nx1 x5 x6) _
    unfold shape_Size.L1
    refine Jc ?_
    refine J.eq go_seq ?_
    refine Jc ?_
    refine J.ite (λh5=> ?_) (λh5=> ?_)
    ·have h5':=decide_eq_true h5
     have h5'':decide ((x1.length:Int)<=x6)=false:=decide_eq_false (by omega)
     refine Jc ?_
     refine J.eq ret_seq ?_
     refine J.eq go_seq ?_
     refine J.at λx8 h6 h7 h8=> ?_
     conv=>arg 1;simp (disch:=first|exact Zd|fail) only[ZZ,d54_at,simprocAttr,e_h1,h2',e_h3,h4',h5'',h5',lm_ik h8]
     refine J.eq go_seq ?_
     refine J.chk λh9=> ?_
     conv=>arg 1;simp (disch:=first|exact Zd|fail) only[ZZ,d54_at,simprocAttr,e_h1,h2',e_h3,h4',h5'',h5',lm_ik h8]
     refine J.ite (λh10=> ?_) (λh10=> ?_)
     ·have h10':=decide_eq_true h10
      have h10'':decide (x8<=(wk .i64 (Int.tdiv 4096 x5)))=false:=decide_eq_false (by omega)
      refine J.some ?_
      simp (maxSteps:=20000000) (disch:=first|exact Zd|fail) only[ZZ,d54_at,simprocAttr,e_h1,h2',e_h3,h4',h5'',h5',lm_ik h8,h10'',h10',FN]
     ·have h10':=decide_eq_false h10
      have h10'':decide (x8<=(wk .i64 (Int.tdiv 4096 x5)))=true:=decide_eq_true (by omega)
      conv=>arg 1;simp (disch:=first|exact Zd|fail) only[ZZ,d54_at,simprocAttr,e_h1,h2',e_h3,h4',h5'',h5',lm_ik h8,h10'',h10']
      refine J.eq ret_seq ?_
      conv=>arg 1;simp (disch:=first|exact Zd|fail) only[ZZ,d54_at,simprocAttr,e_h1,h2',e_h3,h4',h5'',h5',lm_ik h8,h10'',h10']
      refine J.eq ret_seq ?_
      conv=>arg 1;simp (disch:=first|exact Zd|fail) only[ZZ,d54_at,simprocAttr,e_h1,h2',e_h3,h4',h5'',h5',lm_ik h8,h10'',h10']
      refine J.next (s:=(wk .i64 (x5*x8),wk .i64 (x6+1))) hn1 ?_ ?_
      ·exact Ze
      ·exact Zh
    ·have h5':=decide_eq_false h5
     have h5'':decide ((x1.length:Int)<=x6)=true:=decide_eq_true (by omega)
     refine Jc ?_
     refine J.eq ret_seq ?_
     refine J.some ?_
     exact Js
  ·refine J.hd jn_at ?_
   refine J.eq go_seq ?_
   refine Jc ?_
   refine J.ite (λh11=> ?_) (λh11=> ?_)
   ·have h11':=decide_eq_true h11
    have h11'':decide ((x1.length:Int)<=8)=false:=decide_eq_false (by omega)
    refine Jc ?_
    refine J.eq ret_seq ?_
    refine J.some ?_
    exact Js
   ·have h11':=decide_eq_false h11
    have h11'':decide ((x1.length:Int)<=8)=true:=decide_eq_true (by omega)
    refine J.bind λx9 h12=> ?_
    have e_h12:=H66_1 _ _ h12
    try simp only[NN,NT,LN,simprocAttr,DT]at e_h12
    refine Jc ?_
    refine J.eq ret_seq ?_
    refine Jc ?_
    refine J.ite (λh13=> ?_) (λh13=> ?_)
    ·have h13':x9=true:=h13
     refine J.some ?_
     exact Js
    ·have h13':x9=false:=Bool.eq_false_iff.2 h13
     refine Jc ?_
     refine J.jmp (t:=()) hj1 ?_ ?_
     ·exact Ze
     ·exact Zh
noncomputable def t54(fu:Nat):CallP:=orE 66 (mkC (λ(t:List Int)=>([.arr t.length (lm (ik .i64) t),.fn 112 [] []]:List AV)) (λt=>slices_ContainsFunc_int fu t (λy0=>shape_Size_1 fu y0)) e66) (orE 66 (mkC (λ(t:List Int)=>([.arr t.length (lm (ik .i64) t),.fn 113 [] []]:List AV)) (λt=>slices_ContainsFunc_int fu t (λy0=>shape_Size_2 fu y0)) e66) (orE 114 (mkC (λ(t:(List Int)×Int)=>([.arr t.1.length (lm (ik .i64) t.1),.v (.int .i64 t.2)]:List AV)) (λt=>slices_Contains_int fu t.1 t.2) e114) (noP)))
theorem t54_ok(fu:Nat):CpOK prog (t54 fu):=orE_ok (orE_ok (orE_ok (noP_ok) (mkC_ok (λt b h=>ok114 fu t.1 t.2 b h))) (mkC_ok (λt b h=>ok66 fu t (λy0=>shape_Size_2 fu y0) 113 [] Capt.nil (λy0 r h=>ok113 fu y0 r h) b h))) (mkC_ok (λt b h=>ok66 fu t (λy0=>shape_Size_1 fu y0) 112 [] Capt.nil (λy0 r h=>ok112 fu y0 r h) b h))
theorem ok54(fu:Nat)(x1:List Int)(r)(h:shape_Size fu x1=some r):PureOK prog 54 [.arr x1.length (lm (ik .i64) x1)] (e54 r):=
  pure_J mixed (cp:=t54 fu) (t54_ok fu) noI_ok i54 (w54 _ fu x1 (λa0 r h=>orE_hit (mkC_at (a:=a0) (by intro a b h;first|(exact rfl)|(simp only[INJ,IJ]at h;first|exact h|(simp_all [Prod.ext_iff]))) h)) (λa0 r h=>orE_next (mkC_none (by intro t h;simp at h)) (orE_hit (mkC_at (a:=a0) (by intro a b h;first|(exact rfl)|(simp only[INJ,IJ]at h;first|exact h|(simp_all [Prod.ext_iff]))) h))) (λa0 a1 r h=>orE_miss (by decide) (orE_miss (by decide) (orE_hit (mkC_at (a:=(a0,a1)) (by intro a b h;first|(exact rfl)|(simp only[INJ,IJ]at h;first|exact h|(simp_all [Prod.ext_iff]))) h))))) h
open Aw (d50)
def d50_at:=by have h:=tabL Aw.d50.eq_1;simp only[AllAt,Nat.zero_add,Nat.reduceAdd]at h;exact h
theorem i50:finfo prog 50 d50=some ⟨bodyOf Tryz.f50,[.tmp 2],[34]⟩:=fA Tryz.func50
def e50:Int->AV:=λr=> .v (.int .i64 r)
structure K106 (fu:Nat) (cp:CallP):Prop where
 ap: ∀ {a0:Int} {r},tens_known fu a0=some r->cp 106 [.v (.int .i64 a0)]=some (.v (.bool r))
noncomputable def C106(fu:Nat):Cm prog Int Bool:=⟨106,λt=>[.v (.int .i64 t)],λt=>tens_known fu t,e106,λt b h=>ok106 fu t b h,Zi⟩
theorem u106{fu:Nat}{cp:CallP}(H:Hit cp (C106 fu).ct):K106 fu cp:=⟨λ {a0 r} h=>(C106 fu).at H a0 r h⟩
structure K54 (fu:Nat) (cp:CallP):Prop where
 ap: ∀ {a0:List Int} {r},shape_Size fu a0=some r->cp 54 [.arr a0.length (lm (ik .i64) a0)]=some (.tuple [.v (.int .i64 r.1),.v (.int .i64 r.2)])
noncomputable def C54(fu:Nat):Cm prog (List Int) (Int×Int):=⟨54,λt=>[.arr t.length (lm (ik .i64) t)],λt=>shape_Size fu t,e54,λt b h=>ok54 fu t b h,Zi⟩
theorem u54{fu:Nat}{cp:CallP}(H:Hit cp (C54 fu).ct):K54 fu cp:=⟨λ {a0 r} h=>(C54 fu).at H a0 r h⟩
def tens_Check.j1:LJ 1 24 Unit Int:=⟨λr t e=>[(1,er e 1),(3,er e 3),(5,.v (.int .i64 t))],λr t h=>[((0,1,0),hr h (0,1,0))]⟩
open tens_Check in
theorem w50(cp:CallP)(fu:Nat)(x1:T_Tensor)(H1:K106 fu cp)(H2:K54 fu cp):J (go prog noC cp noI 0 [] d50 fu (fin prog [.tmp 2] [34]) (bodyOf Tryz.f50) (initE 0 [.agg (c_T_Tensor x1)]) [] []) (tens_Check fu x1) e50:=by
 unfold tens_Check e50
 have da:=d50_at
 conv=>arg 1;simp only[bodyOf,Tryz.f50]
 have z0:=d50_at
 exact Wk
theorem ok50(fu:Nat)(x1:T_Tensor)(r)(h:tens_Check fu x1=some r):PureOK prog 50 [.agg (c_T_Tensor x1)] (e50 r):=pureT mixed [(C106 fu).ct,(C54 fu).ct] (ids:=[106,54]) rfl (by decide) i50 (C:=noC) (ci:=λcp=>noI) (λcp ok=>noI_ok) (λcp H=>w50 cp fu x1 (u106 H.1) (u54 H.2.1)) h
open Aw (d102)
def d102_at:=by have h:=tabL Aw.d102.eq_1;simp only[AllAt,Nat.zero_add,Nat.reduceAdd]at h;exact h
theorem i102:finfo prog 102 d102=some ⟨bodyOf Tryz.f102,[.tmp 2],[22]⟩:=fA Tryz.func102
def e102:(List Int)->AV:=λr=> .fresh 1 r.length (lm (ik .i64) r)
theorem w102(cp:CallP)(fu:Nat)(x1:List Int):J (go prog noC cp noI 0 [] d102 fu (fin prog [.tmp 2] [22]) (bodyOf Tryz.f102) (initE 0 [.arr x1.length (lm (ik .i64) x1)]) [] []) (tens_own_int fu x1) e102:=by
 unfold tens_own_int e102
 have da:=d102_at
 conv=>arg 1;simp only[bodyOf,Tryz.f102]
 have z0:=d102_at
 exact Wk
theorem ok102(fu:Nat)(x1:List Int)(r)(h:tens_own_int fu x1=some r):PureOK prog 102 [.arr x1.length (lm (ik .i64) x1)] (e102 r):=pureT mixed [] (ids:=[]) rfl (by decide) i102 (C:=noC) (ci:=λcp=>noI) (λcp ok=>noI_ok) (λcp H=>w102 cp fu x1) h
open Aw (d103)
def d103_at:=by have h:=tabL Aw.d103.eq_1;simp only[AllAt,Nat.zero_add,Nat.reduceAdd]at h;exact h
theorem i103:finfo prog 103 d103=some ⟨bodyOf Tryz.f103,[.tmp 2],[24]⟩:=fA Tryz.func103
def e103:(List Int)->AV:=λr=> .fresh 1 r.length (lm (ik .u32) r)
theorem w103(cp:CallP)(fu:Nat)(x1:List Int):J (go prog noC cp noI 0 [] d103 fu (fin prog [.tmp 2] [24]) (bodyOf Tryz.f103) (initE 0 [.arr x1.length (lm (ik .u32) x1)]) [] []) (tens_own_uint32 fu x1) e103:=by
 unfold tens_own_uint32 e103
 have da:=d103_at
 conv=>arg 1;simp only[bodyOf,Tryz.f103]
 have z0:=d103_at
 exact Wk
theorem ok103(fu:Nat)(x1:List Int)(r)(h:tens_own_uint32 fu x1=some r):PureOK prog 103 [.arr x1.length (lm (ik .u32) x1)] (e103 r):=pureT mixed [] (ids:=[]) rfl (by decide) i103 (C:=noC) (ci:=λcp=>noI) (λcp ok=>noI_ok) (λcp H=>w103 cp fu x1) h
open Aw (d104)
def d104_at:=by have h:=tabL Aw.d104.eq_1;simp only[AllAt,Nat.zero_add,Nat.reduceAdd]at h;exact h
theorem i104:finfo prog 104 d104=some ⟨bodyOf Tryz.f104,[.tmp 2],[25]⟩:=fA Tryz.func104
def e104:(List Int)->AV:=λr=> .fresh 1 r.length (lm (ik .i64) r)
theorem w104(cp:CallP)(fu:Nat)(x1:List Int):J (go prog noC cp noI 0 [] d104 fu (fin prog [.tmp 2] [25]) (bodyOf Tryz.f104) (initE 0 [.arr x1.length (lm (ik .i64) x1)]) [] []) (tens_own_int64 fu x1) e104:=by
 unfold tens_own_int64 e104
 have da:=d104_at
 conv=>arg 1;simp only[bodyOf,Tryz.f104]
 have z0:=d104_at
 exact Wk
theorem ok104(fu:Nat)(x1:List Int)(r)(h:tens_own_int64 fu x1=some r):PureOK prog 104 [.arr x1.length (lm (ik .i64) x1)] (e104 r):=pureT mixed [] (ids:=[]) rfl (by decide) i104 (C:=noC) (ci:=λcp=>noI) (λcp ok=>noI_ok) (λcp H=>w104 cp fu x1) h
open Aw (d105)
def d105_at:=by have h:=tabL Aw.d105.eq_1;simp only[AllAt,Nat.zero_add,Nat.reduceAdd]at h;exact h
theorem i105:finfo prog 105 d105=some ⟨bodyOf Tryz.f105,[.tmp 2],[26]⟩:=fA Tryz.func105
def e105:(List Bool)->AV:=λr=> .fresh 1 r.length (lm (bk) r)
theorem w105(cp:CallP)(fu:Nat)(x1:List Bool):J (go prog noC cp noI 0 [] d105 fu (fin prog [.tmp 2] [26]) (bodyOf Tryz.f105) (initE 0 [.arr x1.length (lm (bk) x1)]) [] []) (tens_own_bool fu x1) e105:=by
 unfold tens_own_bool e105
 have da:=d105_at
 conv=>arg 1;simp only[bodyOf,Tryz.f105]
 have z0:=d105_at
 exact Wk
theorem ok105(fu:Nat)(x1:List Bool)(r)(h:tens_own_bool fu x1=some r):PureOK prog 105 [.arr x1.length (lm (bk) x1)] (e105 r):=pureT mixed [] (ids:=[]) rfl (by decide) i105 (C:=noC) (ci:=λcp=>noI) (λcp ok=>noI_ok) (λcp H=>w105 cp fu x1) h
open Aw (d49)
def d49_at:=by have h:=tabL Aw.d49.eq_1;simp only[AllAt,Nat.zero_add,Nat.reduceAdd]at h;exact h
theorem i49:finfo prog 49 d49=some ⟨bodyOf Tryz.f49,[.cell 2 28],[28]⟩:=fA Tryz.func49
def e49:T_Tensor->AV:=λr=> .agg [.v (.int .i64 r.fType),.fresh 1 r.fDims.length (lm (ik .i64) r.fDims),.fresh 1 r.fF.length (lm (ik .u32) r.fF),.fresh 1 r.fI.length (lm (ik .i64) r.fI),.fresh 1 r.fB.length (lm (bk) r.fB)]
structure K102 (fu:Nat) (cp:CallP):Prop where
 ap: ∀ {a0:List Int} {r},tens_own_int fu a0=some r->cp 102 [.arr a0.length (lm (ik .i64) a0)]=some (.fresh 1 r.length (lm (ik .i64) r))
noncomputable def C102(fu:Nat):Cm prog (List Int) (List Int):=⟨102,λt=>[.arr t.length (lm (ik .i64) t)],λt=>tens_own_int fu t,e102,λt b h=>ok102 fu t b h,Zi⟩
theorem u102{fu:Nat}{cp:CallP}(H:Hit cp (C102 fu).ct):K102 fu cp:=⟨λ {a0 r} h=>(C102 fu).at H a0 r h⟩
structure K103 (fu:Nat) (cp:CallP):Prop where
 ap: ∀ {a0:List Int} {r},tens_own_uint32 fu a0=some r->cp 103 [.arr a0.length (lm (ik .u32) a0)]=some (.fresh 1 r.length (lm (ik .u32) r))
noncomputable def C103(fu:Nat):Cm prog (List Int) (List Int):=⟨103,λt=>[.arr t.length (lm (ik .u32) t)],λt=>tens_own_uint32 fu t,e103,λt b h=>ok103 fu t b h,Zi⟩
theorem u103{fu:Nat}{cp:CallP}(H:Hit cp (C103 fu).ct):K103 fu cp:=⟨λ {a0 r} h=>(C103 fu).at H a0 r h⟩
structure K104 (fu:Nat) (cp:CallP):Prop where
 ap: ∀ {a0:List Int} {r},tens_own_int64 fu a0=some r->cp 104 [.arr a0.length (lm (ik .i64) a0)]=some (.fresh 1 r.length (lm (ik .i64) r))
noncomputable def C104(fu:Nat):Cm prog (List Int) (List Int):=⟨104,λt=>[.arr t.length (lm (ik .i64) t)],λt=>tens_own_int64 fu t,e104,λt b h=>ok104 fu t b h,Zi⟩
theorem u104{fu:Nat}{cp:CallP}(H:Hit cp (C104 fu).ct):K104 fu cp:=⟨λ {a0 r} h=>(C104 fu).at H a0 r h⟩
structure K105 (fu:Nat) (cp:CallP):Prop where
 ap: ∀ {a0:List Bool} {r},tens_own_bool fu a0=some r->cp 105 [.arr a0.length (lm (bk) a0)]=some (.fresh 1 r.length (lm (bk) r))
noncomputable def C105(fu:Nat):Cm prog (List Bool) (List Bool):=⟨105,λt=>[.arr t.length (lm (bk) t)],λt=>tens_own_bool fu t,e105,λt b h=>ok105 fu t b h,Zi⟩
theorem u105{fu:Nat}{cp:CallP}(H:Hit cp (C105 fu).ct):K105 fu cp:=⟨λ {a0 r} h=>(C105 fu).at H a0 r h⟩
theorem w49(cp:CallP)(fu:Nat)(x1:T_Tensor)(H1:K102 fu cp)(H2:K103 fu cp)(H3:K104 fu cp)(H4:K105 fu cp):J (go prog noC cp noI 0 [] d49 fu (fin prog [.cell 2 28] [28]) (bodyOf Tryz.f49) (initE 0 [.agg (c_T_Tensor x1)]) [] []) (tens_Copy fu x1) e49:=by
 unfold tens_Copy e49
 have da:=d49_at
 conv=>arg 1;simp only[bodyOf,Tryz.f49]
 have z0:=d49_at
 exact Wk
theorem ok49(fu:Nat)(x1:T_Tensor)(r)(h:tens_Copy fu x1=some r):PureOK prog 49 [.agg (c_T_Tensor x1)] (e49 r):=pureT mixed [(C102 fu).ct,(C103 fu).ct,(C104 fu).ct,(C105 fu).ct] (ids:=[102,103,104,105]) rfl (by decide) i49 (C:=noC) (ci:=λcp=>noI) (λcp ok=>noI_ok) (λcp H=>w49 cp fu x1 (u102 H.1) (u103 H.2.1) (u104 H.2.2.1) (u105 H.2.2.2.1)) h
open Aw (d140)
def d140_at:=by have h:=tabL Aw.d140.eq_1;simp only[AllAt,Nat.zero_add,Nat.reduceAdd]at h;exact h
theorem i140:finfo prog 140 d140=some ⟨bodyOf Tryz.f140,[.tmp 2],[23]⟩:=fA Tryz.func140
def e140:Int->AV:=λr=> .v (.int .u32 r)
theorem w140(cp:CallP)(fu:Nat)(x1:Int):J (go prog noC cp noI 0 [] d140 fu (fin prog [.tmp 2] [23]) (bodyOf Tryz.f140) (initE 0 [.v (.int .u32 x1)]) [] []) (soft_Abs fu x1) e140:=by
 unfold soft_Abs e140
 have da:=d140_at
 conv=>arg 1;simp only[bodyOf,Tryz.f140]
 have z0:=d140_at
 exact Wk
theorem ok140(fu:Nat)(x1:Int)(r)(h:soft_Abs fu x1=some r):PureOK prog 140 [.v (.int .u32 x1)] (e140 r):=pureT mixed [] (ids:=[]) rfl (by decide) i140 (C:=noC) (ci:=λcp=>noI) (λcp ok=>noI_ok) (λcp H=>w140 cp fu x1) h
open Aw (d124)
def d124_at:=by have h:=tabL Aw.d124.eq_1;simp only[AllAt,Nat.zero_add,Nat.reduceAdd]at h;exact h
theorem i124:finfo prog 124 d124=some ⟨bodyOf Tryz.f124,[.tmp 2],[4]⟩:=fA Tryz.func124
def e124:Bool->AV:=λr=> .v (.bool r)
structure K140 (fu:Nat) (cp:CallP):Prop where
 ap: ∀ {a0:Int} {r},soft_Abs fu a0=some r->cp 140 [.v (.int .u32 a0)]=some (.v (.int .u32 r))
noncomputable def C140(fu:Nat):Cm prog Int Int:=⟨140,λt=>[.v (.int .u32 t)],λt=>soft_Abs fu t,e140,λt b h=>ok140 fu t b h,Zi⟩
theorem u140{fu:Nat}{cp:CallP}(H:Hit cp (C140 fu).ct):K140 fu cp:=⟨λ {a0 r} h=>(C140 fu).at H a0 r h⟩
theorem w124(cp:CallP)(fu:Nat)(x1:Int)(H1:K140 fu cp):J (go prog noC cp noI 0 [] d124 fu (fin prog [.tmp 2] [4]) (bodyOf Tryz.f124) (initE 0 [.v (.int .u32 x1)]) [] []) (soft_NaN fu x1) e124:=by
 unfold soft_NaN e124
 have da:=d124_at
 conv=>arg 1;simp only[bodyOf,Tryz.f124]
 have z0:=d124_at
 exact Wk
theorem ok124(fu:Nat)(x1:Int)(r)(h:soft_NaN fu x1=some r):PureOK prog 124 [.v (.int .u32 x1)] (e124 r):=pureT mixed [(C140 fu).ct] (ids:=[140]) rfl (by decide) i124 (C:=noC) (ci:=λcp=>noI) (λcp ok=>noI_ok) (λcp H=>w124 cp fu x1 (u140 H.1)) h
open Aw (d107)
def d107_at:=by have h:=tabL Aw.d107.eq_1;simp only[AllAt,Nat.zero_add,Nat.reduceAdd]at h;exact h
theorem i107:finfo prog 107 d107=some ⟨bodyOf Tryz.f107,[.tmp 2],[23]⟩:=fA Tryz.func107
def e107:Int->AV:=λr=> .v (.int .u32 r)
structure K124 (fu:Nat) (cp:CallP):Prop where
 ap: ∀ {a0:Int} {r},soft_NaN fu a0=some r->cp 124 [.v (.int .u32 a0)]=some (.v (.bool r))
noncomputable def C124(fu:Nat):Cm prog Int Bool:=⟨124,λt=>[.v (.int .u32 t)],λt=>soft_NaN fu t,e124,λt b h=>ok124 fu t b h,Zi⟩
theorem u124{fu:Nat}{cp:CallP}(H:Hit cp (C124 fu).ct):K124 fu cp:=⟨λ {a0 r} h=>(C124 fu).at H a0 r h⟩
theorem w107(cp:CallP)(fu:Nat)(x1:Int)(H1:K124 fu cp):J (go prog noC cp noI 0 [] d107 fu (fin prog [.tmp 2] [23]) (bodyOf Tryz.f107) (initE 0 [.v (.int .u32 x1)]) [] []) (soft_Canon fu x1) e107:=by
 unfold soft_Canon e107
 have da:=d107_at
 conv=>arg 1;simp only[bodyOf,Tryz.f107]
 have z0:=d107_at
 exact Wk
theorem ok107(fu:Nat)(x1:Int)(r)(h:soft_Canon fu x1=some r):PureOK prog 107 [.v (.int .u32 x1)] (e107 r):=pureT mixed [(C124 fu).ct] (ids:=[124]) rfl (by decide) i107 (C:=noC) (ci:=λcp=>noI) (λcp ok=>noI_ok) (λcp H=>w107 cp fu x1 (u124 H.1)) h
open Aw (d51)
def d51_at:=by have h:=tabL Aw.d51.eq_1;simp only[AllAt,Nat.zero_add,Nat.reduceAdd]at h;exact h
theorem i51:finfo prog 51 d51=some ⟨bodyOf Tryz.f51,[.cell 2 28],[28]⟩:=fA Tryz.func51
def e51:T_Tensor->AV:=λr=> .agg [.v (.int .i64 r.fType),.fresh 1 r.fDims.length (lm (ik .i64) r.fDims),.fresh 1 r.fF.length (lm (ik .u32) r.fF),.fresh 1 r.fI.length (lm (ik .i64) r.fI),.fresh 1 r.fB.length (lm (bk) r.fB)]
structure K49 (fu:Nat) (cp:CallP):Prop where
 ap: ∀ {a0:T_Tensor} {r},tens_Copy fu a0=some r->cp 49 [.agg (c_T_Tensor a0)]=some (.agg [.v (.int .i64 r.fType),.fresh 1 r.fDims.length (lm (ik .i64) r.fDims),.fresh 1 r.fF.length (lm (ik .u32) r.fF),.fresh 1 r.fI.length (lm (ik .i64) r.fI),.fresh 1 r.fB.length (lm (bk) r.fB)])
noncomputable def C49(fu:Nat):Cm prog T_Tensor T_Tensor:=⟨49,λt=>[.agg (c_T_Tensor t)],λt=>tens_Copy fu t,e49,λt b h=>ok49 fu t b h,Zi⟩
theorem u49{fu:Nat}{cp:CallP}(H:Hit cp (C49 fu).ct):K49 fu cp:=⟨λ {a0 r} h=>(C49 fu).at H a0 r h⟩
structure K107 (fu:Nat) (cp:CallP):Prop where
 ap: ∀ {a0:Int} {r},soft_Canon fu a0=some r->cp 107 [.v (.int .u32 a0)]=some (.v (.int .u32 r))
noncomputable def C107(fu:Nat):Cm prog Int Int:=⟨107,λt=>[.v (.int .u32 t)],λt=>soft_Canon fu t,e107,λt b h=>ok107 fu t b h,Zi⟩
theorem u107{fu:Nat}{cp:CallP}(H:Hit cp (C107 fu).ct):K107 fu cp:=⟨λ {a0 r} h=>(C107 fu).at H a0 r h⟩
def tens_Canon.m1:LJ 1 6 Unit ((List Int)×Int):=⟨λr s e=>[(2,er e 2),(3,er e 3),(9,.own (0,7,1) 0 s.1.length s.1.length),(10,er e 10),(11,.v (.int .i64 s.2))],λr s h=>[((0,2,0),hr h (0,2,0)),((0,7,0),hr h (0,7,0)),((0,7,1),.sl true true 1 s.1.length (lm (ik .u32) s.1)),((0,7,2),hr h (0,7,2)),((0,7,3),hr h (0,7,3)),((0,3,0),bs (hr h (0,3,0)) 2 (.own (0,7,1) 0 s.1.length s.1.length))]⟩
open tens_Canon in
theorem w51(cp:CallP)(fu:Nat)(x1:T_Tensor)(H1:K49 fu cp)(H2:K107 fu cp):J (go prog noC cp noI 0 [] d51 fu (fin prog [.cell 2 28] [28]) (bodyOf Tryz.f51) (initE 0 [.agg (c_T_Tensor x1)]) [] []) (tens_Canon fu x1) e51:=by
 unfold tens_Canon e51
 have da:=d51_at
 conv=>arg 1;simp only[bodyOf,Tryz.f51]
 have z0:=d51_at
 exact Wk
theorem ok51(fu:Nat)(x1:T_Tensor)(r)(h:tens_Canon fu x1=some r):PureOK prog 51 [.agg (c_T_Tensor x1)] (e51 r):=pureT mixed [(C49 fu).ct,(C107 fu).ct] (ids:=[49,107]) rfl (by decide) i51 (C:=noC) (ci:=λcp=>noI) (λcp ok=>noI_ok) (λcp H=>w51 cp fu x1 (u49 H.1) (u107 H.2.1)) h
def d48:TD:=[(0,[2]),(0,[]),(0,[3]),(0,[]),(0,[]),(0,[]),(0,[0,5,6,7])]
def d48_at:=And.intro (show d48.getD 0 (0,[])=(0,[2])from rfl)<|And.intro (show d48.getD 1 (0,[])=(0,[])from rfl)<|And.intro (show d48.getD 2 (0,[])=(0,[3])from rfl)<|And.intro (show d48.getD 3 (0,[])=(0,[])from rfl)<|And.intro (show d48.getD 4 (0,[])=(0,[])from rfl)<|And.intro (show d48.getD 5 (0,[])=(0,[])from rfl)<|(show d48.getD 6 (0,[])=(0,[0,5,6,7])from rfl)
theorem i48:finfo prog 48 d48=some ⟨bodyOf Tryz.f48,[.tmp 2],[22]⟩:=fA Tryz.func48
def e48:List Int->AV:=λr=> .fresh 1 r.length (lm (ik .i64) r)
theorem ok48(fu:Nat)(x1:List Int)(r)(h:slices_Clone_int fu x1=some r):PureOK prog 48 [.arr x1.length (lm (ik .i64) x1)] (e48 r):=by
  unfold slices_Clone_int chk at h
  split at h
  · rename_i hs;injection h with h;subst h
    cases x1 with
    | nil=>
      refine PureOK.arr0 λa c=> ?_
      refine pure_J mixed (C:=noC) (cp:=noP) (n:=0) noP_ok noI_ok i48 (s:=some []) (enc:=e48) ?_ rfl
      refine J.some ?_
      unfold e48
      cases a with
      | none=>
        conv=>lhs;simp (disch:=first|exact Zd|fail) only[bodyOf,Tryz.f48,ZZ,d48_at,simprocAttr,abin_sl tv22]
        rw[go_seq]
        simp (disch:=first|exact Zd|fail) only[ZZ,d48_at,simprocAttr,abin_sl tv22,FF,NN,NT]
      | some a=>
        conv=>lhs;simp (disch:=first|exact Zd|fail) only[bodyOf,Tryz.f48,ZZ,d48_at,simprocAttr,abin_sl tv22]
        rw[go_seq]
        conv=>lhs;simp (disch:=first|exact Zd|fail) only[ZZ,d48_at,simprocAttr,abin_sl tv22]
        rw[ret_seq]
        simp (disch:=first|exact Zd|fail) only[ZZ,d48_at,simprocAttr,abin_sl tv22,FF,NN,NT]
    | cons y x1=>
      refine pure_J mixed (C:=noC) (cp:=noP) (n:=0) noP_ok noI_ok i48 (s:=some (y::x1)) (enc:=e48) ?_ rfl
      refine J.some ?_
      have ha: ∀ xs,abin prog .eql 22 (.arr (y::x1).length xs) (.v (.slice none 0 0))=some (.v (.bool false)):=λxs=>abin_an (op:= .eql) tv22 (by simp)
      generalize y::x1=l at hs ha ⊢
      unfold e48
      conv=>lhs;simp (disch:=first|exact Zd|fail) only[bodyOf,Tryz.f48,ZZ,d48_at,simprocAttr,abin_sl tv22,ha]
      rw[go_seq]
      conv=>lhs;simp (disch:=first|exact Zd|fail) only[ZZ,d48_at,simprocAttr,abin_sl tv22,ha]
      rw[ret_seq]
      simp (disch:=first|exact Zd|fail) only[ZZ,d48_at,simprocAttr,abin_sl tv22,FF,NN,NT,lm_length]
  · cases h
open Aw (d22)
def d22_at:=by have h:=tabL Aw.d22.eq_1;simp only[AllAt,Nat.zero_add,Nat.reduceAdd]at h;exact h
theorem i22:finfo prog 22 d22=some ⟨bodyOf Tryz.f22,[.tmp 2],[46]⟩:=fA Tryz.func22
def e22:(List T_Val)->AV:=λr=> .arr r.length (fm c_T_Val r)
structure K48 (fu:Nat) (cp:CallP):Prop where
 ap: ∀ {a0:List Int} {r},slices_Clone_int fu a0=some r->cp 48 [.arr a0.length (lm (ik .i64) a0)]=some (.fresh 1 r.length (lm (ik .i64) r))
noncomputable def C48(fu:Nat):Cm prog (List Int) (List Int):=⟨48,λt=>[.arr t.length (lm (ik .i64) t)],λt=>slices_Clone_int fu t,e48,λt b h=>ok48 fu t b h,Zi⟩
theorem u48{fu:Nat}{cp:CallP}(H:Hit cp (C48 fu).ct):K48 fu cp:=⟨λ {a0 r} h=>(C48 fu).at H a0 r h⟩
def ewise_Vals.m1:LJ 1 6 Unit ((List T_Val)×Int):=⟨λr s e=>[(3,.own (0,3,77) 0 s.1.length s.1.length),(7,er e 7),(8,er e 8),(9,.v (.int .i64 s.2))],λr s h=>[((0,3,77),.sl true true 8 s.1.length (fm c_T_Val s.1))]⟩
open ewise_Vals in
theorem w22(cp:CallP)(fu:Nat)(x1:List T_Tensor)(H1:K48 fu cp)(H2:K49 fu cp):J (go prog noC cp noI 0 [] d22 fu (finS prog [.tmp 2] [46]) (bodyOf Tryz.f22) (initE 0 [.arr x1.length (fm c_T_Tensor x1)]) [] []) (ewise_Vals fu x1) e22:=by
 unfold ewise_Vals e22
 have da:=d22_at
 conv=>arg 1;simp only[bodyOf,Tryz.f22]
 have z0:=d22_at
 have z1:=SE
 exact Wk
theorem ok22(fu:Nat)(x1:List T_Tensor)(r)(h:ewise_Vals fu x1=some r):PureOK prog 22 [.arr x1.length (fm c_T_Tensor x1)] (e22 r):=pureST mixed [(C48 fu).ct,(C49 fu).ct] (ids:=[48,49]) rfl (by decide) i22 (C:=noC) (ci:=λcp=>noI) (λcp ok=>noI_ok) (λcp H=>w22 cp fu x1 (u48 H.1) (u49 H.2.1)) h
def e173:(Int×Int×Int×Int)->AV:=λr=> .tuple [.v (.int .i64 r.1),.v (.int .i64 r.2.1),.v (.int .i64 r.2.2.1),.v (.int .i64 r.2.2.2)]
theorem ok173(fu:Nat)(x1:Int)(r)(h:ops_Arity fu x1=some r):PureOK prog 173 [.v (.int .i64 x1)] (e173 r):=by
  unfold ops_Arity at h
  by_cases hx:x1=23
  · rw[spl_pos hx]at h;injection h with h;subst h
    obtain rfl:=hx
    exact closed173_23
  rw[spl_neg hx]at h;clear hx
  by_cases hx:x1=24
  · rw[spl_pos hx]at h;injection h with h;subst h
    obtain rfl:=hx
    exact closed173_24
  rw[spl_neg hx]at h;clear hx
  by_cases hx:x1=25
  · rw[spl_pos hx]at h;injection h with h;subst h
    obtain rfl:=hx
    exact closed173_25
  rw[spl_neg hx]at h;clear hx
  by_cases hx:x1=28
  · rw[spl_pos hx]at h;injection h with h;subst h
    obtain rfl:=hx
    exact closed173_28
  rw[spl_neg hx]at h;clear hx
  by_cases hx:x1=29
  · rw[spl_pos hx]at h;injection h with h;subst h
    obtain rfl:=hx
    exact closed173_29
  rw[spl_neg hx]at h;clear hx
  by_cases hx:x1=30
  · rw[spl_pos hx]at h;injection h with h;subst h
    obtain rfl:=hx
    exact closed173_30
  rw[spl_neg hx]at h;clear hx
  by_cases hx:x1=31
  · rw[spl_pos hx]at h;injection h with h;subst h
    obtain rfl:=hx
    exact closed173_31
  rw[spl_neg hx]at h;clear hx
  by_cases hx:x1=32
  · rw[spl_pos hx]at h;injection h with h;subst h
    obtain rfl:=hx
    exact closed173_32
  rw[spl_neg hx]at h;clear hx
  by_cases hx:x1=33
  · rw[spl_pos hx]at h;injection h with h;subst h
    obtain rfl:=hx
    exact closed173_33
  rw[spl_neg hx]at h;clear hx
  by_cases hx:x1=34
  · rw[spl_pos hx]at h;injection h with h;subst h
    obtain rfl:=hx
    exact closed173_34
  rw[spl_neg hx]at h;clear hx
  by_cases hx:x1=35
  · rw[spl_pos hx]at h;injection h with h;subst h
    obtain rfl:=hx
    exact closed173_35
  rw[spl_neg hx]at h;clear hx
  by_cases hx:x1=36
  · rw[spl_pos hx]at h;injection h with h;subst h
    obtain rfl:=hx
    exact closed173_36
  rw[spl_neg hx]at h;clear hx
  by_cases hx:x1=37
  · rw[spl_pos hx]at h;injection h with h;subst h
    obtain rfl:=hx
    exact closed173_37
  rw[spl_neg hx]at h;clear hx
  by_cases hx:x1=38
  · rw[spl_pos hx]at h;injection h with h;subst h
    obtain rfl:=hx
    exact closed173_38
  rw[spl_neg hx]at h;clear hx
  by_cases hx:x1=39
  · rw[spl_pos hx]at h;injection h with h;subst h
    obtain rfl:=hx
    exact closed173_39
  rw[spl_neg hx]at h;clear hx
  by_cases hx:x1=40
  · rw[spl_pos hx]at h;injection h with h;subst h
    obtain rfl:=hx
    exact closed173_40
  rw[spl_neg hx]at h;clear hx
  by_cases hx:x1=41
  · unfold chk at h;rw[if_pos hx]at h;injection h with h;subst h
    obtain rfl:=hx
    exact closed173_41
  unfold chk at h;rw[if_neg hx]at h;cases h
open Aw (d190)
def d190_at:=by have h:=tabL Aw.d190.eq_1;simp only[AllAt,Nat.zero_add,Nat.reduceAdd]at h;exact h
theorem i190:finfo prog 190 d190=some ⟨bodyOf Tryz.f190,[.cell 4 51],[51]⟩:=fA Tryz.func190
def e190:T_Val->AV:=λr=> .agg [.v (.int .i64 r.fType),.arr r.fDims.length (lm (ik .i64) r.fDims),.v (.bool r.fConst),.v (.int .i64 r.fT.fType),.arr r.fT.fDims.length (lm (ik .i64) r.fT.fDims),.arr r.fT.fF.length (lm (ik .u32) r.fT.fF),.arr r.fT.fI.length (lm (ik .i64) r.fT.fI),.arr r.fT.fB.length (lm (bk) r.fT.fB)]
theorem w190(cp:CallP)(fu:Nat)(x1:T_infer_ask)(x2:Int):J (go prog noC cp noI 0 [] d190 fu (finS prog [.cell 4 51] [51]) (bodyOf Tryz.f190) (initE 0 [.agg (c_T_infer_ask x1),.v (.int .i64 x2)]) [] []) (infer_ask_val fu x1 x2) e190:=by
 unfold infer_ask_val e190
 have da:=d190_at
 conv=>arg 1;simp only[bodyOf,Tryz.f190]
 have z0:=d190_at
 have z1:=SE
 exact Wk
theorem ok190(fu:Nat)(x1:T_infer_ask)(x2:Int)(r)(h:infer_ask_val fu x1 x2=some r):PureOK prog 190 [.agg (c_T_infer_ask x1),.v (.int .i64 x2)] (e190 r):=pureST mixed [] (ids:=[]) rfl (by decide) i190 (C:=noC) (ci:=λcp=>noI) (λcp ok=>noI_ok) (λcp H=>w190 cp fu x1 x2) h
open Aw (d174)
def d174_at:=by have h:=tabL Aw.d174.eq_1;simp only[AllAt,Nat.zero_add,Nat.reduceAdd]at h;exact h
theorem i174:finfo prog 174 d174=some ⟨bodyOf Tryz.f174,[.tmp 4],[4]⟩:=fA Tryz.func174
def e174:Bool->AV:=λr=> .v (.bool r)
structure K190 (fu:Nat) (cp:CallP):Prop where
 ap: ∀ {a0:T_infer_ask} {a1:Int} {r},infer_ask_val fu a0 a1=some r->cp 190 [.agg (c_T_infer_ask a0),.v (.int .i64 a1)]=some (.agg [.v (.int .i64 r.fType),.arr r.fDims.length (lm (ik .i64) r.fDims),.v (.bool r.fConst),.v (.int .i64 r.fT.fType),.arr r.fT.fDims.length (lm (ik .i64) r.fT.fDims),.arr r.fT.fF.length (lm (ik .u32) r.fT.fF),.arr r.fT.fI.length (lm (ik .i64) r.fT.fI),.arr r.fT.fB.length (lm (bk) r.fT.fB)])
noncomputable def C190(fu:Nat):Cm prog (T_infer_ask×Int) T_Val:=⟨190,λt=>[.agg (c_T_infer_ask t.1),.v (.int .i64 t.2)],λt=>infer_ask_val fu t.1 t.2,e190,λt b h=>ok190 fu t.1 t.2 b h,Zi⟩
theorem u190{fu:Nat}{cp:CallP}(H:Hit cp (C190 fu).ct):K190 fu cp:=⟨λ {a0 a1 r} h=>(C190 fu).at H (a0,a1) r h⟩
theorem w174(cp:CallP)(fu:Nat)(x1:T_infer_ask)(x2:Int)(H1:K190 fu cp):J (go prog noC cp noI 0 [] d174 fu (fin prog [.tmp 4] [4]) (bodyOf Tryz.f174) (initE 0 [.agg (c_T_infer_ask x1),.v (.int .i64 x2)]) [] []) (infer_ask_has fu x1 x2) e174:=by
 unfold infer_ask_has e174
 have da:=d174_at
 conv=>arg 1;simp only[bodyOf,Tryz.f174]
 have z0:=d174_at
 exact Wk
theorem ok174(fu:Nat)(x1:T_infer_ask)(x2:Int)(r)(h:infer_ask_has fu x1 x2=some r):PureOK prog 174 [.agg (c_T_infer_ask x1),.v (.int .i64 x2)] (e174 r):=pureT mixed [(C190 fu).ct] (ids:=[190]) rfl (by decide) i174 (C:=noC) (ci:=λcp=>noI) (λcp ok=>noI_ok) (λcp H=>w174 cp fu x1 x2 (u190 H.1)) h
open Aw (d108)
def d108_at:=by have h:=tabL Aw.d108.eq_1;simp only[AllAt,Nat.zero_add,Nat.reduceAdd]at h;exact h
theorem i108:finfo prog 108 d108=some ⟨bodyOf Tryz.f108,[.tmp 2],[4]⟩:=fA Tryz.func108
def e108:Bool->AV:=λr=> .v (.bool r)
structure K173 (fu:Nat) (cp:CallP):Prop where
 ap: ∀ {a0:Int} {r},ops_Arity fu a0=some r->cp 173 [.v (.int .i64 a0)]=some (.tuple [.v (.int .i64 r.1),.v (.int .i64 r.2.1),.v (.int .i64 r.2.2.1),.v (.int .i64 r.2.2.2)])
noncomputable def C173(fu:Nat):Cm prog Int (Int×Int×Int×Int):=⟨173,λt=>[.v (.int .i64 t)],λt=>ops_Arity fu t,e173,λt b h=>ok173 fu t b h,Zi⟩
theorem u173{fu:Nat}{cp:CallP}(H:Hit cp (C173 fu).ct):K173 fu cp:=⟨λ {a0 r} h=>(C173 fu).at H a0 r h⟩
structure K174 (fu:Nat) (cp:CallP):Prop where
 ap: ∀ {a0:T_infer_ask} {a1:Int} {r},infer_ask_has fu a0 a1=some r->cp 174 [.agg (c_T_infer_ask a0),.v (.int .i64 a1)]=some (.v (.bool r))
noncomputable def C174(fu:Nat):Cm prog (T_infer_ask×Int) Bool:=⟨174,λt=>[.agg (c_T_infer_ask t.1),.v (.int .i64 t.2)],λt=>infer_ask_has fu t.1 t.2,e174,λt b h=>ok174 fu t.1 t.2 b h,Zi⟩
theorem u174{fu:Nat}{cp:CallP}(H:Hit cp (C174 fu).ct):K174 fu cp:=⟨λ {a0 a1 r} h=>(C174 fu).at H (a0,a1) r h⟩
def infer_ask_complete.m1:LJ 1 10 Unit Int:=⟨λr s e=>[(1,er e 1),(49,er e 49),(50,.v (.int .i64 s))],λr s h=>[((0,1,0),hr h (0,1,0))]⟩
def infer_ask_complete.j1:LJ 1 8 Unit Unit:=⟨λr t e=>[(1,er e 1),(3,er e 3)],λr t h=>[((0,1,0),hr h (0,1,0))]⟩
open infer_ask_complete in
theorem w108(cp:CallP)(fu:Nat)(x1:T_infer_ask)(H1:K173 fu cp)(H2:K174 fu cp):J (go prog noC cp noI 0 [] d108 fu (fin prog [.tmp 2] [4]) (bodyOf Tryz.f108) (initE 0 [.agg (c_T_infer_ask x1)]) [] []) (infer_ask_complete fu x1) e108:=by
 unfold infer_ask_complete e108
 have da:=d108_at
 conv=>arg 1;simp only[bodyOf,Tryz.f108]
 have z0:=d108_at
 exact Wk
theorem ok108(fu:Nat)(x1:T_infer_ask)(r)(h:infer_ask_complete fu x1=some r):PureOK prog 108 [.agg (c_T_infer_ask x1)] (e108 r):=pureT mixed [(C173 fu).ct,(C174 fu).ct] (ids:=[173,174]) rfl (by decide) i108 (C:=noC) (ci:=λcp=>noI) (λcp ok=>noI_ok) (λcp H=>w108 cp fu x1 (u173 H.1) (u174 H.2.1)) h
open Aw (d268)
def d268_at:=by have h:=tabL Aw.d268.eq_1;simp only[AllAt,Nat.zero_add,Nat.reduceAdd]at h;exact h
theorem i268:finfo prog 268 d268=some ⟨bodyOf Tryz.f268,[.tmp 2],[9]⟩:=fA Tryz.func268
def e268:ByteArray->AV:=λr=> .v (.string r)
def infer_sorts.j5:LJ 5 210 Int Unit:=⟨λr t e=>[(3,er e 3),(4,er e 4),(13,er e 13),(18,er e 18),(31,er e 31),(36,er e 36),(45,.v (.bool (decide (r=51))))],λr t h=>[]⟩
def infer_sorts.j4:LJ 4 170 Int Unit:=⟨λr t e=>[(3,er e 3),(4,er e 4),(13,er e 13),(18,er e 18),(31,er e 31),(36,.v (.bool (decide (r=64))))],λr t h=>[]⟩
def infer_sorts.j3:LJ 3 114 Unit Bool:=⟨λr t e=>[(3,er e 3),(4,er e 4),(13,er e 13),(18,.v (.bool t))],λr t h=>[]⟩
def infer_sorts.j2:LJ 2 62 Unit Bool:=⟨λr t e=>[(3,er e 3),(4,er e 4),(13,.v (.bool t))],λr t h=>[]⟩
def infer_sorts.j1:LJ 1 42 Int Unit:=⟨λr t e=>[(3,er e 3),(4,.v (.bool (decide (r=71))))],λr t h=>[]⟩
open infer_sorts in
theorem w268(cp:CallP)(fu:Nat)(x1:Int):J (go prog noC cp noI 0 [] d268 fu (fin prog [.tmp 2] [9]) (bodyOf Tryz.f268) (initE 0 [.v (.int .i64 x1)]) [] []) (infer_sorts fu x1) e268:=by
 unfold infer_sorts e268
 have da:=d268_at
 conv=>arg 1;simp only[bodyOf,Tryz.f268]
 have z0:=d268_at
 exact Wk
theorem ok268(fu:Nat)(x1:Int)(r)(h:infer_sorts fu x1=some r):PureOK prog 268 [.v (.int .i64 x1)] (e268 r):=pureT mixed [] (ids:=[]) rfl (by decide) i268 (C:=noC) (ci:=λcp=>noI) (λcp ok=>noI_ok) (λcp H=>w268 cp fu x1) h
open Aw (d269)
def d269_at:=by have h:=tabL Aw.d269.eq_1;simp only[AllAt,Nat.zero_add,Nat.reduceAdd]at h;exact h
theorem i269:finfo prog 269 d269=some ⟨bodyOf Tryz.f269,[.tmp 6],[4]⟩:=fA Tryz.func269
def e269:Bool->AV:=λr=> .v (.bool r)
def infer_ask_fits.j1:LJ 1 0 Unit Bool:=⟨λr t e=>[(1,er e 1),(3,er e 3),(6,.v (.bool t)),(7,er e 7),(12,er e 12)],λr t h=>[((0,3,0),hr h (0,3,0))]⟩
open infer_ask_fits in
theorem w269(cp:CallP)(fu:Nat)(x1:T_infer_ask)(x2:Int)(x3:Int)(H1:K190 fu cp)(H2:K172 fu cp):J (go prog noC cp noI 0 [] d269 fu (fin prog [.tmp 6] [4]) (bodyOf Tryz.f269) (initE 0 [.agg (c_T_infer_ask x1),.v (.int .i64 x2),.v (.int .u8 x3)]) [] []) (infer_ask_fits fu x1 x2 x3) e269:=by
 unfold infer_ask_fits e269
 have da:=d269_at
 conv=>arg 1;simp only[bodyOf,Tryz.f269]
 have z0:=d269_at
 exact Wk
theorem ok269(fu:Nat)(x1:T_infer_ask)(x2:Int)(x3:Int)(r)(h:infer_ask_fits fu x1 x2 x3=some r):PureOK prog 269 [.agg (c_T_infer_ask x1),.v (.int .i64 x2),.v (.int .u8 x3)] (e269 r):=pureT mixed [(C190 fu).ct,(C172 fu).ct] (ids:=[190,172]) rfl (by decide) i269 (C:=noC) (ci:=λcp=>noI) (λcp ok=>noI_ok) (λcp H=>w269 cp fu x1 x2 x3 (u190 H.1) (u172 H.2.1)) h
open Aw (d175)
def d175_at:=by have h:=tabL Aw.d175.eq_1;simp only[AllAt,Nat.zero_add,Nat.reduceAdd]at h;exact h
theorem i175:finfo prog 175 d175=some ⟨bodyOf Tryz.f175,[.tmp 2],[4]⟩:=fA Tryz.func175
def e175:Bool->AV:=λr=> .v (.bool r)
structure K268 (fu:Nat) (cp:CallP):Prop where
 ap: ∀ {a0:Int} {r},infer_sorts fu a0=some r->cp 268 [.v (.int .i64 a0)]=some (.v (.string r))
noncomputable def C268(fu:Nat):Cm prog Int ByteArray:=⟨268,λt=>[.v (.int .i64 t)],λt=>infer_sorts fu t,e268,λt b h=>ok268 fu t b h,Zi⟩
theorem u268{fu:Nat}{cp:CallP}(H:Hit cp (C268 fu).ct):K268 fu cp:=⟨λ {a0 r} h=>(C268 fu).at H a0 r h⟩
structure K269 (fu:Nat) (cp:CallP):Prop where
 ap: ∀ {a0:T_infer_ask} {a1:Int} {a2:Int} {r},infer_ask_fits fu a0 a1 a2=some r->cp 269 [.agg (c_T_infer_ask a0),.v (.int .i64 a1),.v (.int .u8 a2)]=some (.v (.bool r))
noncomputable def C269(fu:Nat):Cm prog (T_infer_ask×Int×Int) Bool:=⟨269,λt=>[.agg (c_T_infer_ask t.1),.v (.int .i64 t.2.1),.v (.int .u8 t.2.2)],λt=>infer_ask_fits fu t.1 t.2.1 t.2.2,e269,λt b h=>ok269 fu t.1 t.2.1 t.2.2 b h,Zi⟩
theorem u269{fu:Nat}{cp:CallP}(H:Hit cp (C269 fu).ct):K269 fu cp:=⟨λ {a0 a1 a2 r} h=>(C269 fu).at H (a0,a1,a2) r h⟩
def infer_ask_typed.m1:LJ 1 6 Unit Int:=⟨λr s e=>[(1,er e 1),(3,er e 3),(10,er e 10),(11,.v (.int .i64 s))],λr s h=>[((0,1,0),hr h (0,1,0))]⟩
def infer_ask_typed.j1:LJ 1 16 Unit Unit:=⟨λr t e=>[(1,er e 1)],λr t h=>[((0,1,0),hr h (0,1,0))]⟩
open infer_ask_typed in
theorem w175(cp:CallP)(fu:Nat)(x1:T_infer_ask)(H1:K268 fu cp)(H2:K174 fu cp)(H3:K190 fu cp)(H4:K172 fu cp)(H5:K269 fu cp):J (go prog noC cp noI 0 [] d175 fu (fin prog [.tmp 2] [4]) (bodyOf Tryz.f175) (initE 0 [.agg (c_T_infer_ask x1)]) [] []) (infer_ask_typed fu x1) e175:=by
 unfold infer_ask_typed e175
 have da:=d175_at
 conv=>arg 1;simp only[bodyOf,Tryz.f175]
 have z0:=d175_at
 exact Wk
theorem ok175(fu:Nat)(x1:T_infer_ask)(r)(h:infer_ask_typed fu x1=some r):PureOK prog 175 [.agg (c_T_infer_ask x1)] (e175 r):=pureT mixed [(C268 fu).ct,(C174 fu).ct,(C190 fu).ct,(C172 fu).ct,(C269 fu).ct] (ids:=[268,174,190,172,269]) rfl (by decide) i175 (C:=noC) (ci:=λcp=>noI) (λcp ok=>noI_ok) (λcp H=>w175 cp fu x1 (u268 H.1) (u174 H.2.1) (u190 H.2.2.1) (u172 H.2.2.2.1) (u269 H.2.2.2.2.1)) h
open Aw (d178)
def d178_at:=by have h:=tabL Aw.d178.eq_1;simp only[AllAt,Nat.zero_add,Nat.reduceAdd]at h;exact h
theorem i178:finfo prog 178 d178=some ⟨bodyOf Tryz.f178,[.tmp 4],[22]⟩:=fA Tryz.func178
def e178:(List Int)->AV:=λr=> .arr r.length (lm (ik .i64) r)
theorem w178(cp:CallP)(fu:Nat)(x1:T_infer_ask)(x2:Int)(H1:K190 fu cp):J (go prog noC cp noI 0 [] d178 fu (fin prog [.tmp 4] [22]) (bodyOf Tryz.f178) (initE 0 [.agg (c_T_infer_ask x1),.v (.int .i64 x2)]) [] []) (infer_ask_dims fu x1 x2) e178:=by
 unfold infer_ask_dims e178
 have da:=d178_at
 conv=>arg 1;simp only[bodyOf,Tryz.f178]
 have z0:=d178_at
 exact Wk
theorem ok178(fu:Nat)(x1:T_infer_ask)(x2:Int)(r)(h:infer_ask_dims fu x1 x2=some r):PureOK prog 178 [.agg (c_T_infer_ask x1),.v (.int .i64 x2)] (e178 r):=pureT mixed [(C190 fu).ct] (ids:=[190]) rfl (by decide) i178 (C:=noC) (ci:=λcp=>noI) (λcp ok=>noI_ok) (λcp H=>w178 cp fu x1 x2 (u190 H.1)) h
open Aw (d270)
def d270_at:=by have h:=tabL Aw.d270.eq_1;simp only[AllAt,Nat.zero_add,Nat.reduceAdd]at h;exact h
theorem i270:finfo prog 270 d270=some ⟨bodyOf Tryz.f270,[.tmp 2],[3]⟩:=fA Tryz.func270
def e270:Int->AV:=λr=> .v (.int .i64 r)
structure K178 (fu:Nat) (cp:CallP):Prop where
 ap: ∀ {a0:T_infer_ask} {a1:Int} {r},infer_ask_dims fu a0 a1=some r->cp 178 [.agg (c_T_infer_ask a0),.v (.int .i64 a1)]=some (.arr r.length (lm (ik .i64) r))
noncomputable def C178(fu:Nat):Cm prog (T_infer_ask×Int) (List Int):=⟨178,λt=>[.agg (c_T_infer_ask t.1),.v (.int .i64 t.2)],λt=>infer_ask_dims fu t.1 t.2,e178,λt b h=>ok178 fu t.1 t.2 b h,Zi⟩
theorem u178{fu:Nat}{cp:CallP}(H:Hit cp (C178 fu).ct):K178 fu cp:=⟨λ {a0 a1 r} h=>(C178 fu).at H (a0,a1) r h⟩
theorem w270(cp:CallP)(fu:Nat)(x1:T_infer_ask)(H1:K178 fu cp):J (go prog noC cp noI 0 [] d270 fu (fin prog [.tmp 2] [3]) (bodyOf Tryz.f270) (initE 0 [.agg (c_T_infer_ask x1)]) [] []) (infer_ask_rank fu x1) e270:=by
 unfold infer_ask_rank e270
 have da:=d270_at
 conv=>arg 1;simp only[bodyOf,Tryz.f270]
 have z0:=d270_at
 exact Wk
theorem ok270(fu:Nat)(x1:T_infer_ask)(r)(h:infer_ask_rank fu x1=some r):PureOK prog 270 [.agg (c_T_infer_ask x1)] (e270 r):=pureT mixed [(C178 fu).ct] (ids:=[178]) rfl (by decide) i270 (C:=noC) (ci:=λcp=>noI) (λcp ok=>noI_ok) (λcp H=>w270 cp fu x1 (u178 H.1)) h
open Aw (d176)
def d176_at:=by have h:=tabL Aw.d176.eq_1;simp only[AllAt,Nat.zero_add,Nat.reduceAdd]at h;exact h
theorem i176:finfo prog 176 d176=some ⟨bodyOf Tryz.f176,[.tmp 2],[4]⟩:=fA Tryz.func176
def e176:Bool->AV:=λr=> .v (.bool r)
structure K270 (fu:Nat) (cp:CallP):Prop where
 ap: ∀ {a0:T_infer_ask} {r},infer_ask_rank fu a0=some r->cp 270 [.agg (c_T_infer_ask a0)]=some (.v (.int .i64 r))
noncomputable def C270(fu:Nat):Cm prog T_infer_ask Int:=⟨270,λt=>[.agg (c_T_infer_ask t)],λt=>infer_ask_rank fu t,e270,λt b h=>ok270 fu t b h,Zi⟩
theorem u270{fu:Nat}{cp:CallP}(H:Hit cp (C270 fu).ct):K270 fu cp:=⟨λ {a0 r} h=>(C270 fu).at H a0 r h⟩
def infer_ask_attributes.j2:LJ 2 136 T_infer_ask Unit:=⟨λr t e=>[(1,er e 1),(3,er e 3),(4,er e 4),(17,er e 17),(58,er e 58),(99,er e 99),(131,.v (.bool (decide (r.fop=69))))],λr t h=>[((0,1,0),hr h (0,1,0)),((0,3,0),hr h (0,3,0))]⟩
def infer_ask_attributes.j1:LJ 1 104 T_infer_ask Unit:=⟨λr t e=>[(1,er e 1),(3,er e 3),(4,er e 4),(17,er e 17),(58,er e 58),(99,.v (.bool (decide (r.fop=80))))],λr t h=>[((0,1,0),hr h (0,1,0)),((0,3,0),hr h (0,3,0))]⟩
open infer_ask_attributes in
theorem w176(cp:CallP)(fu:Nat)(x1:T_infer_ask)(H1:K270 fu cp)(H2:K190 fu cp):J (go prog noC cp noI 0 [] d176 fu (fin prog [.tmp 2] [4]) (bodyOf Tryz.f176) (initE 0 [.agg (c_T_infer_ask x1)]) [] []) (infer_ask_attributes fu x1) e176:=by
 unfold infer_ask_attributes e176
 have da:=d176_at
 conv=>arg 1;simp only[bodyOf,Tryz.f176]
 have z0:=d176_at
 exact Wk
theorem ok176(fu:Nat)(x1:T_infer_ask)(r)(h:infer_ask_attributes fu x1=some r):PureOK prog 176 [.agg (c_T_infer_ask x1)] (e176 r):=pureT mixed [(C270 fu).ct,(C190 fu).ct] (ids:=[270,190]) rfl (by decide) i176 (C:=noC) (ci:=λcp=>noI) (λcp ok=>noI_ok) (λcp H=>w176 cp fu x1 (u270 H.1) (u190 H.2.1)) h
open Aw (d276)
def d276_at:=by have h:=tabL Aw.d276.eq_1;simp only[AllAt,Nat.zero_add,Nat.reduceAdd]at h;exact h
theorem i276:finfo prog 276 d276=some ⟨bodyOf Tryz.f276,[.tmp 2],[46]⟩:=fA Tryz.func276
def e276:(List T_Val)->AV:=λr=> .fresh 8 r.length (fm c_T_Val r)
def infer_ask_lists.j1:LJ 1 6 T_infer_ask Unit:=⟨λr t e=>[(1,er e 1),(3,er e 3),(4,er e 4),(8,er e 8),(13,.v (.bool (decide (r.fop=65))))],λr t h=>[((0,1,0),hr h (0,1,0))]⟩
open infer_ask_lists in
theorem w276(cp:CallP)(fu:Nat)(x1:T_infer_ask):J (go prog noC cp noI 0 [] d276 fu (fin prog [.tmp 2] [46]) (bodyOf Tryz.f276) (initE 0 [.agg (c_T_infer_ask x1)]) [] []) (infer_ask_lists fu x1) e276:=by
 unfold infer_ask_lists e276
 have da:=d276_at
 conv=>arg 1;simp only[bodyOf,Tryz.f276]
 have z0:=d276_at
 exact Wk
theorem ok276(fu:Nat)(x1:T_infer_ask)(r)(h:infer_ask_lists fu x1=some r):PureOK prog 276 [.agg (c_T_infer_ask x1)] (e276 r):=pureT mixed [] (ids:=[]) rfl (by decide) i276 (C:=noC) (ci:=λcp=>noI) (λcp ok=>noI_ok) (λcp H=>w276 cp fu x1) h
open Aw (d351)
def d351_at:=by have h:=tabL Aw.d351.eq_1;simp only[AllAt,Nat.zero_add,Nat.reduceAdd]at h;exact h
theorem i351:finfo prog 351 d351=some ⟨bodyOf Tryz.f351,[.tmp 4],[3]⟩:=fA Tryz.func351
def e351:Int->AV:=λr=> .v (.int .i64 r)
theorem w351(cp:CallP)(fu:Nat)(x1:List T_Val)(p1:T_Val→Option Bool)(fv_p1:FuncId)(ca_p1:List AV)(cap_p1:Capt ca_p1)(hp_p1: ∀ (y0:T_Val) r,p1 y0=some r→cp fv_p1 ((.agg (c_T_Val y0))::ca_p1)=some (.v (.bool r))):J (go prog noC cp noI 0 [] d351 fu (fin prog [.tmp 4] [3]) (bodyOf Tryz.f351) (initE 0 [.arr x1.length (fm c_T_Val x1),.fn fv_p1 [] ca_p1]) [] []) (slices_IndexFunc_api_Val_api_Val fu x1 p1) e351:=by
 unfold slices_IndexFunc_api_Val_api_Val e351
 have da:=d351_at
 have c4_p1:=λg=>(cap_p1.1 g).1;have c3_p1:=λg=>(cap_p1.1 g).2.1;have b4_p1:=λg=>(cap_p1.1 g).2.2.1;have b3_p1:=λg=>(cap_p1.1 g).2.2.2;have nm_p1:=cap_p1.2
 conv=>arg 1;simp (disch:=first|exact Zd|fail) only[bodyOf,Tryz.f351,ZZ,d351_at,simprocAttr,c4_p1,c3_p1,b4_p1,b3_p1,nm_p1]
 refine J.eq go_seq ?_
 conv=>arg 1;simp (disch:=first|exact Zd|fail) only[ZZ,d351_at,simprocAttr,c4_p1,c3_p1,b4_p1,b3_p1,nm_p1]
 unfold slices_IndexFunc_api_Val_api_Val.W1
 refine J.loop (λ(s:Int)=>([(0,.arr x1.length (fm c_T_Val x1)),(1,.fn fv_p1 [] ca_p1),(7,.v (.int .i64 (x1.length:Int))),(8,.v (.int .i64 s))],[])) (λnext s=>slices_IndexFunc_api_Val_api_Val.L1 fu p1 x1 next s) (s0:=0) ?_ ?_ ?_
 ·exact Ze
 ·exact Zh
 rintro nx1 k1 hn1 x4
 show J _ (slices_IndexFunc_api_Val_api_Val.L1 fu p1 x1 nx1 x4) _
 unfold slices_IndexFunc_api_Val_api_Val.L1
 conv=>arg 1;simp (disch:=first|exact Zd|fail) only[ZZ,d351_at,simprocAttr,c4_p1,c3_p1,b4_p1,b3_p1,nm_p1]
 refine J.eq go_seq ?_
 conv=>arg 1;simp (disch:=first|exact Zd|fail) only[ZZ,d351_at,simprocAttr,c4_p1,c3_p1,b4_p1,b3_p1,nm_p1]
 refine J.ite (λh1=> ?_) (λh1=> ?_)
 ·have h1':=decide_eq_true h1
  have h1'':decide ((x1.length:Int)<=x4)=false:=decide_eq_false (by omega)
  conv=>arg 1;simp (disch:=first|exact Zd|fail) only[ZZ,d351_at,simprocAttr,c4_p1,c3_p1,b4_p1,b3_p1,nm_p1,h1'',h1']
  refine J.eq ret_seq ?_
  refine J.eq go_seq ?_
  refine J.at λx7 h2 h3 h4=> ?_
  refine J.bind λx8 h5=> ?_
  have e_h5:=hp_p1 _ _ h5
  try simp only[NN,NT,LN,simprocAttr,DT]at e_h5
  conv=>arg 1;simp (disch:=first|exact Zd|fail) only[ZZ,d351_at,simprocAttr,c4_p1,c3_p1,b4_p1,b3_p1,nm_p1,h1'',h1',fm_cut c_T_Val_len h4,fm_fit c_T_Val_len h4,fm_at c_T_Val_len h4,fm_at0 c_T_Val_len h4,e_h5]
  refine J.ite (λh6=> ?_) (λh6=> ?_)
  ·have h6':x8=true:=h6
   refine J.some ?_
   simp (maxSteps:=20000000) (disch:=first|exact Zd|fail) only[ZZ,d351_at,simprocAttr,c4_p1,c3_p1,b4_p1,b3_p1,nm_p1,h1'',h1',fm_cut c_T_Val_len h4,fm_fit c_T_Val_len h4,fm_at c_T_Val_len h4,fm_at0 c_T_Val_len h4,e_h5,h6',FN]
  ·have h6':x8=false:=Bool.eq_false_iff.2 h6
   conv=>arg 1;simp (disch:=first|exact Zd|fail) only[ZZ,d351_at,simprocAttr,c4_p1,c3_p1,b4_p1,b3_p1,nm_p1,h1'',h1',fm_cut c_T_Val_len h4,fm_fit c_T_Val_len h4,fm_at c_T_Val_len h4,fm_at0 c_T_Val_len h4,e_h5,h6']
   refine J.eq ret_seq ?_
   conv=>arg 1;simp (disch:=first|exact Zd|fail) only[ZZ,d351_at,simprocAttr,c4_p1,c3_p1,b4_p1,b3_p1,nm_p1,h1'',h1',fm_cut c_T_Val_len h4,fm_fit c_T_Val_len h4,fm_at c_T_Val_len h4,fm_at0 c_T_Val_len h4,e_h5,h6']
   refine J.next (s:=wk .i64 (x4+1)) hn1 ?_ ?_
   ·exact Ze
   ·exact Zh
 ·have h1':=decide_eq_false h1
  have h1'':decide ((x1.length:Int)<=x4)=true:=decide_eq_true (by omega)
  conv=>arg 1;simp (disch:=first|exact Zd|fail) only[ZZ,d351_at,simprocAttr,c4_p1,c3_p1,b4_p1,b3_p1,nm_p1,h1'',h1']
  refine J.eq ret_seq ?_
  refine J.some ?_
  simp (maxSteps:=20000000) (disch:=first|exact Zd|fail) only[ZZ,d351_at,simprocAttr,c4_p1,c3_p1,b4_p1,b3_p1,nm_p1,h1'',h1',FN]
noncomputable def t351(fu:Nat)(x1:List T_Val)(p1:T_Val->Option Bool)(fv_p1:FuncId)(ca_p1:List AV):CallP:=orE fv_p1 (mkC (λ(t:T_Val)=>((.agg (c_T_Val t))::ca_p1:List AV)) (λt=>p1 t) (λr=> .v (.bool r))) (noP)
theorem t351_ok(fu:Nat)(x1:List T_Val)(p1:T_Val->Option Bool)(fv_p1:FuncId)(ca_p1:List AV)(cap_p1:Capt ca_p1)(hp_p1: ∀ (y0:T_Val) r,p1 y0=some r->PureOK prog fv_p1 ((.agg (c_T_Val y0))::ca_p1) (.v (.bool r))):CpOK prog (t351 fu x1 p1 fv_p1 ca_p1):=orE_ok (noP_ok) (mkC_ok (λt b h=>hp_p1 t b h))
theorem ok351(fu:Nat)(x1:List T_Val)(p1:T_Val→Option Bool)(fv_p1:FuncId)(ca_p1:List AV)(cap_p1:Capt ca_p1)(hp_p1: ∀ (y0:T_Val) r,p1 y0=some r→PureOK prog fv_p1 ((.agg (c_T_Val y0))::ca_p1) (.v (.bool r)))(r)(h:slices_IndexFunc_api_Val_api_Val fu x1 p1=some r):PureOK prog 351 [.arr x1.length (fm c_T_Val x1),.fn fv_p1 [] ca_p1] (e351 r):=
  pure_J mixed (cp:=t351 fu x1 p1 fv_p1 ca_p1) (t351_ok fu x1 p1 fv_p1 ca_p1 cap_p1 hp_p1) noI_ok i351 (w351 _ fu x1 p1 fv_p1 ca_p1 cap_p1 (λy0 r h=>orE_hit (mkC_at (a:=y0) (by intro a b h;first|(exact rfl)|(simp only[INJ,IJ]at h;first|exact h|(simp_all [Prod.ext_iff]))) h))) h
open Aw (d277)
def d277_at:=by have h:=tabL Aw.d277.eq_1;simp only[AllAt,Nat.zero_add,Nat.reduceAdd]at h;exact h
theorem i277:finfo prog 277 d277=some ⟨bodyOf Tryz.f277,[.tmp 4],[4]⟩:=fA Tryz.func277
def e277:Bool->AV:=λr=> .v (.bool r)
theorem w277(cp:CallP)(fu:Nat)(x1:List T_Val)(p1:T_Val→Option Bool)(fv_p1:FuncId)(ca_p1:List AV)(cap_p1:Capt ca_p1)(hp_p1: ∀ (y0:T_Val) r,p1 y0=some r→cp fv_p1 ((.agg (c_T_Val y0))::ca_p1)=some (.v (.bool r)))(H351_0: ∀ (a0:List T_Val) r,slices_IndexFunc_api_Val_api_Val fu a0 p1=some r→cp 351 [.arr a0.length (fm c_T_Val a0),.fn fv_p1 [] ca_p1]=some (.v (.int .i64 r))):J (go prog noC cp noI 0 [] d277 fu (fin prog [.tmp 4] [4]) (bodyOf Tryz.f277) (initE 0 [.arr x1.length (fm c_T_Val x1),.fn fv_p1 [] ca_p1]) [] []) (slices_ContainsFunc_api_Val_api_Val fu x1 p1) e277:=by
 unfold slices_ContainsFunc_api_Val_api_Val e277
 have da:=d277_at
 have c4_p1:=λg=>(cap_p1.1 g).1;have c3_p1:=λg=>(cap_p1.1 g).2.1;have b4_p1:=λg=>(cap_p1.1 g).2.2.1;have b3_p1:=λg=>(cap_p1.1 g).2.2.2;have nm_p1:=cap_p1.2
 refine J.bind λx2 h1=> ?_
 have e_h1:=H351_0 _ _ h1
 try simp only[NN,NT,LN,simprocAttr,DT]at e_h1
 refine J.some ?_
 simp (maxSteps:=20000000) (disch:=first|exact Zd|fail) only[bodyOf,Tryz.f277,ZZ,d277_at,simprocAttr,c4_p1,c3_p1,b4_p1,b3_p1,nm_p1,e_h1,FN]
noncomputable def t277(fu:Nat)(x1:List T_Val)(p1:T_Val->Option Bool)(fv_p1:FuncId)(ca_p1:List AV):CallP:=orE 351 (mkC (λ(t:List T_Val)=>([.arr t.length (fm c_T_Val t),.fn fv_p1 [] ca_p1]:List AV)) (λt=>slices_IndexFunc_api_Val_api_Val fu t p1) e351) (orE fv_p1 (mkC (λ(t:T_Val)=>((.agg (c_T_Val t))::ca_p1:List AV)) (λt=>p1 t) (λr=> .v (.bool r))) (noP))
theorem t277_ok(fu:Nat)(x1:List T_Val)(p1:T_Val->Option Bool)(fv_p1:FuncId)(ca_p1:List AV)(cap_p1:Capt ca_p1)(hp_p1: ∀ (y0:T_Val) r,p1 y0=some r->PureOK prog fv_p1 ((.agg (c_T_Val y0))::ca_p1) (.v (.bool r))):CpOK prog (t277 fu x1 p1 fv_p1 ca_p1):=orE_ok (orE_ok (noP_ok) (mkC_ok (λt b h=>hp_p1 t b h))) (mkC_ok (λt b h=>ok351 fu t p1 fv_p1 ca_p1 cap_p1 hp_p1 b h))
theorem ok277(fu:Nat)(x1:List T_Val)(p1:T_Val→Option Bool)(fv_p1:FuncId)(ca_p1:List AV)(cap_p1:Capt ca_p1)(hp_p1: ∀ (y0:T_Val) r,p1 y0=some r→PureOK prog fv_p1 ((.agg (c_T_Val y0))::ca_p1) (.v (.bool r)))(r)(h:slices_ContainsFunc_api_Val_api_Val fu x1 p1=some r):PureOK prog 277 [.arr x1.length (fm c_T_Val x1),.fn fv_p1 [] ca_p1] (e277 r):=
  pure_J mixed (cp:=t277 fu x1 p1 fv_p1 ca_p1) (t277_ok fu x1 p1 fv_p1 ca_p1 cap_p1 hp_p1) noI_ok i277 (w277 _ fu x1 p1 fv_p1 ca_p1 cap_p1 (λy0 r h=>orE_skip (λhfv=>mkC_none (by intro t h;simp at h)) (orE_hit (mkC_at (a:=y0) (by intro a b h;first|(exact rfl)|(simp only[INJ,IJ]at h;first|exact h|(simp_all [Prod.ext_iff]))) h))) (λa0 r h=>orE_hit (mkC_at (a:=a0) (by intro a b h;first|(exact rfl)|(simp only[INJ,IJ]at h;first|exact h|(simp_all [Prod.ext_iff]))) h))) h
open Aw (d193)
def d193_at:=by have h:=tabL Aw.d193.eq_1;simp only[AllAt,Nat.zero_add,Nat.reduceAdd]at h;exact h
theorem i193:finfo prog 193 d193=some ⟨bodyOf Tryz.f193,[.tmp 4],[4]⟩:=fA Tryz.func193
def e193:Bool->AV:=λr=> .v (.bool r)
def slices_Equal_int.m1:LJ 1 8 Unit Int:=⟨λr s e=>[(0,er e 0),(1,er e 1),(12,er e 12),(13,.v (.int .i64 s))],λr s h=>[]⟩
open slices_Equal_int in
theorem w193(cp:CallP)(fu:Nat)(x1:List Int)(x2:List Int):J (go prog noC cp noI 0 [] d193 fu (fin prog [.tmp 4] [4]) (bodyOf Tryz.f193) (initE 0 [.arr x1.length (lm (ik .i64) x1),.arr x2.length (lm (ik .i64) x2)]) [] []) (slices_Equal_int fu x1 x2) e193:=by
 unfold slices_Equal_int e193
 have da:=d193_at
 conv=>arg 1;simp only[bodyOf,Tryz.f193]
 have z0:=d193_at
 exact Wk
theorem ok193(fu:Nat)(x1:List Int)(x2:List Int)(r)(h:slices_Equal_int fu x1 x2=some r):PureOK prog 193 [.arr x1.length (lm (ik .i64) x1),.arr x2.length (lm (ik .i64) x2)] (e193 r):=pureT mixed [] (ids:=[]) rfl (by decide) i193 (C:=noC) (ci:=λcp=>noI) (λcp ok=>noI_ok) (λcp H=>w193 cp fu x1 x2) h
def d279:TD:=[(0,[0,2]),(0,[]),(0,[1,3,4,5,6,7,8,9,10,11,12,13,14,15,16,17,18,19,20,21,22,23,24,25,26])]
def d279_at:=by have h:=tabL d279.eq_1;simp only[AllAt,Nat.zero_add,Nat.reduceAdd]at h;exact h
theorem i279:finfo prog 279 d279=some ⟨bodyOf Tryz.f279,[.tmp 2],[4]⟩:=fA Tryz.func279
def e279:Bool->AV:=λr=> .v (.bool r)
structure K50 (fu:Nat) (cp:CallP):Prop where
 ap: ∀ {a0:T_Tensor} {r},tens_Check fu a0=some r->cp 50 [.agg (c_T_Tensor a0)]=some (.v (.int .i64 r))
noncomputable def C50(fu:Nat):Cm prog T_Tensor Int:=⟨50,λt=>[.agg (c_T_Tensor t)],λt=>tens_Check fu t,e50,λt b h=>ok50 fu t b h,Zi⟩
theorem u50{fu:Nat}{cp:CallP}(H:Hit cp (C50 fu).ct):K50 fu cp:=⟨λ {a0 r} h=>(C50 fu).at H a0 r h⟩
structure K193 (fu:Nat) (cp:CallP):Prop where
 ap: ∀ {a0:List Int} {a1:List Int} {r},slices_Equal_int fu a0 a1=some r->cp 193 [.arr a0.length (lm (ik .i64) a0),.arr a1.length (lm (ik .i64) a1)]=some (.v (.bool r))
noncomputable def C193(fu:Nat):Cm prog ((List Int)×(List Int)) Bool:=⟨193,λt=>[.arr t.1.length (lm (ik .i64) t.1),.arr t.2.length (lm (ik .i64) t.2)],λt=>slices_Equal_int fu t.1 t.2,e193,λt b h=>ok193 fu t.1 t.2 b h,Zi⟩
theorem u193{fu:Nat}{cp:CallP}(H:Hit cp (C193 fu).ct):K193 fu cp:=⟨λ {a0 a1 r} h=>(C193 fu).at H (a0,a1) r h⟩
theorem w279(cp:CallP)(fu:Nat)(x1:T_Val)(H1:K50 fu cp)(H2:K193 fu cp):J (go prog noC cp noI 0 [] d279 fu (fin prog [.tmp 2] [4]) (bodyOf Tryz.f279) (initE 0 [.agg (c_T_Val x1)]) [] []) (infer_held fu x1) e279:=by
 unfold infer_held e279
 have da:=d279_at
 conv=>arg 1;simp only[bodyOf,Tryz.f279]
 have z0:=d279_at
 exact Wk
theorem ok279(fu:Nat)(x1:T_Val)(r)(h:infer_held fu x1=some r):PureOK prog 279 [.agg (c_T_Val x1)] (e279 r):=pureT mixed [(C50 fu).ct,(C193 fu).ct] (ids:=[50,193]) rfl (by decide) i279 (C:=noC) (ci:=λcp=>noI) (λcp ok=>noI_ok) (λcp H=>w279 cp fu x1 (u50 H.1) (u193 H.2.1)) h
def d278:TD:=[(0,[0,2]),(0,[]),(0,[1,3,4,5])]
def d278_at:=by have h:=tabL d278.eq_1;simp only[AllAt,Nat.zero_add,Nat.reduceAdd]at h;exact h
theorem i278:finfo prog 278 d278=some ⟨bodyOf Tryz.f278,[.tmp 2],[4]⟩:=fA Tryz.func278
def e278:Bool->AV:=λr=> .v (.bool r)
structure K279 (fu:Nat) (cp:CallP):Prop where
 ap: ∀ {a0:T_Val} {r},infer_held fu a0=some r->cp 279 [.agg (c_T_Val a0)]=some (.v (.bool r))
noncomputable def C279(fu:Nat):Cm prog T_Val Bool:=⟨279,λt=>[.agg (c_T_Val t)],λt=>infer_held fu t,e279,λt b h=>ok279 fu t b h,Zi⟩
theorem u279{fu:Nat}{cp:CallP}(H:Hit cp (C279 fu).ct):K279 fu cp:=⟨λ {a0 r} h=>(C279 fu).at H a0 r h⟩
theorem w278(cp:CallP)(fu:Nat)(x1:T_Val)(H1:K279 fu cp):J (go prog noC cp noI 0 [] d278 fu (fin prog [.tmp 2] [4]) (bodyOf Tryz.f278) (initE 0 [.agg (c_T_Val x1)]) [] []) (infer_ask_told_1 fu x1) e278:=by
 unfold infer_ask_told_1 e278
 have da:=d278_at
 conv=>arg 1;simp only[bodyOf,Tryz.f278]
 have z0:=d278_at
 exact Wk
theorem ok278(fu:Nat)(x1:T_Val)(r)(h:infer_ask_told_1 fu x1=some r):PureOK prog 278 [.agg (c_T_Val x1)] (e278 r):=pureT mixed [(C279 fu).ct] (ids:=[279]) rfl (by decide) i278 (C:=noC) (ci:=λcp=>noI) (λcp ok=>noI_ok) (λcp H=>w278 cp fu x1 (u279 H.1)) h
def d280:TD:=[(0,[0,2]),(0,[]),(0,[1,3,4,5,6])]
def d280_at:=by have h:=tabL d280.eq_1;simp only[AllAt,Nat.zero_add,Nat.reduceAdd]at h;exact h
theorem i280:finfo prog 280 d280=some ⟨bodyOf Tryz.f280,[.tmp 2],[4]⟩:=fA Tryz.func280
def e280:Bool->AV:=λr=> .v (.bool r)
theorem w280(cp:CallP)(fu:Nat)(x1:T_Val):J (go prog noC cp noI 0 [] d280 fu (fin prog [.tmp 2] [4]) (bodyOf Tryz.f280) (initE 0 [.agg (c_T_Val x1)]) [] []) (infer_ask_told_2 fu x1) e280:=by
 unfold infer_ask_told_2 e280
 have da:=d280_at
 conv=>arg 1;simp only[bodyOf,Tryz.f280]
 have z0:=d280_at
 exact Wk
theorem ok280(fu:Nat)(x1:T_Val)(r)(h:infer_ask_told_2 fu x1=some r):PureOK prog 280 [.agg (c_T_Val x1)] (e280 r):=pureT mixed [] (ids:=[]) rfl (by decide) i280 (C:=noC) (ci:=λcp=>noI) (λcp ok=>noI_ok) (λcp H=>w280 cp fu x1) h
def d352:TD:=[(0,[4]),(0,[0,1,7,8]),(0,[6]),(0,[5]),(0,[]),(0,[]),(0,[10]),(0,[]),(0,[11,12,13,14,15]),(0,[]),(0,[17]),(0,[]),(0,[18]),(0,[]),(0,[])]
def d352_at:=by have h:=tabL d352.eq_1;simp only[AllAt,Nat.zero_add,Nat.reduceAdd]at h;exact h
theorem i352:finfo prog 352 d352=some ⟨bodyOf Tryz.f352,[.tmp 4],[3]⟩:=fA Tryz.func352
def e352:Int->AV:=λr=> .v (.int .i64 r)
theorem w352(cp:CallP)(fu:Nat)(x1:List Int)(p1:Int→Option Bool)(fv_p1:FuncId)(ca_p1:List AV)(cap_p1:Capt ca_p1)(hp_p1: ∀ (y0:Int) r,p1 y0=some r→cp fv_p1 ((.v (.int .i64 y0))::ca_p1)=some (.v (.bool r))):J (go prog noC cp noI 0 [] d352 fu (fin prog [.tmp 4] [3]) (bodyOf Tryz.f352) (initE 0 [.arr x1.length (lm (ik .i64) x1),.fn fv_p1 [] ca_p1]) [] []) (slices_IndexFunc_int64 fu x1 p1) e352:=by
 unfold slices_IndexFunc_int64 e352
 have da:=d352_at
 have c4_p1:=λg=>(cap_p1.1 g).1;have c3_p1:=λg=>(cap_p1.1 g).2.1;have b4_p1:=λg=>(cap_p1.1 g).2.2.1;have b3_p1:=λg=>(cap_p1.1 g).2.2.2;have nm_p1:=cap_p1.2
 conv=>arg 1;simp (disch:=first|exact Zd|fail) only[bodyOf,Tryz.f352,ZZ,d352_at,simprocAttr,c4_p1,c3_p1,b4_p1,b3_p1,nm_p1]
 refine J.eq go_seq ?_
 conv=>arg 1;simp (disch:=first|exact Zd|fail) only[ZZ,d352_at,simprocAttr,c4_p1,c3_p1,b4_p1,b3_p1,nm_p1]
 unfold slices_IndexFunc_int64.W1
 refine J.loop (λ(s:Int)=>([(0,.arr x1.length (lm (ik .i64) x1)),(1,.fn fv_p1 [] ca_p1),(7,.v (.int .i64 (x1.length:Int))),(8,.v (.int .i64 s))],[])) (λnext s=>slices_IndexFunc_int64.L1 fu p1 x1 next s) (s0:=0) ?_ ?_ ?_
 ·exact Ze
 ·exact Zh
 rintro nx1 k1 hn1 x4
 show J _ (slices_IndexFunc_int64.L1 fu p1 x1 nx1 x4) _
 unfold slices_IndexFunc_int64.L1
 conv=>arg 1;simp (disch:=first|exact Zd|fail) only[ZZ,d352_at,simprocAttr,c4_p1,c3_p1,b4_p1,b3_p1,nm_p1]
 refine J.eq go_seq ?_
 conv=>arg 1;simp (disch:=first|exact Zd|fail) only[ZZ,d352_at,simprocAttr,c4_p1,c3_p1,b4_p1,b3_p1,nm_p1]
 refine J.ite (λh1=> ?_) (λh1=> ?_)
 ·have h1':=decide_eq_true h1
  have h1'':decide ((x1.length:Int)<=x4)=false:=decide_eq_false (by omega)
  conv=>arg 1;simp (disch:=first|exact Zd|fail) only[ZZ,d352_at,simprocAttr,c4_p1,c3_p1,b4_p1,b3_p1,nm_p1,h1'',h1']
  refine J.eq ret_seq ?_
  refine J.eq go_seq ?_
  refine J.at λx7 h2 h3 h4=> ?_
  refine J.bind λx8 h5=> ?_
  have e_h5:=hp_p1 _ _ h5
  try simp only[NN,NT,LN,simprocAttr,DT]at e_h5
  conv=>arg 1;simp (disch:=first|exact Zd|fail) only[ZZ,d352_at,simprocAttr,c4_p1,c3_p1,b4_p1,b3_p1,nm_p1,h1'',h1',lm_ik h4,e_h5]
  refine J.ite (λh6=> ?_) (λh6=> ?_)
  ·have h6':x8=true:=h6
   refine J.some ?_
   simp (maxSteps:=20000000) (disch:=first|exact Zd|fail) only[ZZ,d352_at,simprocAttr,c4_p1,c3_p1,b4_p1,b3_p1,nm_p1,h1'',h1',lm_ik h4,e_h5,h6',FN]
  ·have h6':x8=false:=Bool.eq_false_iff.2 h6
   conv=>arg 1;simp (disch:=first|exact Zd|fail) only[ZZ,d352_at,simprocAttr,c4_p1,c3_p1,b4_p1,b3_p1,nm_p1,h1'',h1',lm_ik h4,e_h5,h6']
   refine J.eq ret_seq ?_
   conv=>arg 1;simp (disch:=first|exact Zd|fail) only[ZZ,d352_at,simprocAttr,c4_p1,c3_p1,b4_p1,b3_p1,nm_p1,h1'',h1',lm_ik h4,e_h5,h6']
   refine J.next (s:=wk .i64 (x4+1)) hn1 ?_ ?_
   ·exact Ze
   ·exact Zh
 ·have h1':=decide_eq_false h1
  have h1'':decide ((x1.length:Int)<=x4)=true:=decide_eq_true (by omega)
  conv=>arg 1;simp (disch:=first|exact Zd|fail) only[ZZ,d352_at,simprocAttr,c4_p1,c3_p1,b4_p1,b3_p1,nm_p1,h1'',h1']
  refine J.eq ret_seq ?_
  refine J.some ?_
  simp (maxSteps:=20000000) (disch:=first|exact Zd|fail) only[ZZ,d352_at,simprocAttr,c4_p1,c3_p1,b4_p1,b3_p1,nm_p1,h1'',h1',FN]
noncomputable def t352(fu:Nat)(x1:List Int)(p1:Int->Option Bool)(fv_p1:FuncId)(ca_p1:List AV):CallP:=orE fv_p1 (mkC (λ(t:Int)=>((.v (.int .i64 t))::ca_p1:List AV)) (λt=>p1 t) (λr=> .v (.bool r))) (noP)
theorem t352_ok(fu:Nat)(x1:List Int)(p1:Int->Option Bool)(fv_p1:FuncId)(ca_p1:List AV)(cap_p1:Capt ca_p1)(hp_p1: ∀ (y0:Int) r,p1 y0=some r->PureOK prog fv_p1 ((.v (.int .i64 y0))::ca_p1) (.v (.bool r))):CpOK prog (t352 fu x1 p1 fv_p1 ca_p1):=orE_ok (noP_ok) (mkC_ok (λt b h=>hp_p1 t b h))
theorem ok352(fu:Nat)(x1:List Int)(p1:Int→Option Bool)(fv_p1:FuncId)(ca_p1:List AV)(cap_p1:Capt ca_p1)(hp_p1: ∀ (y0:Int) r,p1 y0=some r→PureOK prog fv_p1 ((.v (.int .i64 y0))::ca_p1) (.v (.bool r)))(r)(h:slices_IndexFunc_int64 fu x1 p1=some r):PureOK prog 352 [.arr x1.length (lm (ik .i64) x1),.fn fv_p1 [] ca_p1] (e352 r):=
  pure_J mixed (cp:=t352 fu x1 p1 fv_p1 ca_p1) (t352_ok fu x1 p1 fv_p1 ca_p1 cap_p1 hp_p1) noI_ok i352 (w352 _ fu x1 p1 fv_p1 ca_p1 cap_p1 (λy0 r h=>orE_hit (mkC_at (a:=y0) (by intro a b h;first|(exact rfl)|(simp only[INJ,IJ]at h;first|exact h|(simp_all [Prod.ext_iff]))) h))) h
def d282:TD:=[(0,[4]),(0,[]),(0,[0,1,5,6,7,8])]
def d282_at:=by have h:=tabL d282.eq_1;simp only[AllAt,Nat.zero_add,Nat.reduceAdd]at h;exact h
theorem i282:finfo prog 282 d282=some ⟨bodyOf Tryz.f282,[.tmp 4],[4]⟩:=fA Tryz.func282
def e282:Bool->AV:=λr=> .v (.bool r)
theorem w282(cp:CallP)(fu:Nat)(x1:List Int)(p1:Int→Option Bool)(fv_p1:FuncId)(ca_p1:List AV)(cap_p1:Capt ca_p1)(hp_p1: ∀ (y0:Int) r,p1 y0=some r→cp fv_p1 ((.v (.int .i64 y0))::ca_p1)=some (.v (.bool r)))(H352_0: ∀ (a0:List Int) r,slices_IndexFunc_int64 fu a0 p1=some r→cp 352 [.arr a0.length (lm (ik .i64) a0),.fn fv_p1 [] ca_p1]=some (.v (.int .i64 r))):J (go prog noC cp noI 0 [] d282 fu (fin prog [.tmp 4] [4]) (bodyOf Tryz.f282) (initE 0 [.arr x1.length (lm (ik .i64) x1),.fn fv_p1 [] ca_p1]) [] []) (slices_ContainsFunc_int64 fu x1 p1) e282:=by
 unfold slices_ContainsFunc_int64 e282
 have da:=d282_at
 have c4_p1:=λg=>(cap_p1.1 g).1;have c3_p1:=λg=>(cap_p1.1 g).2.1;have b4_p1:=λg=>(cap_p1.1 g).2.2.1;have b3_p1:=λg=>(cap_p1.1 g).2.2.2;have nm_p1:=cap_p1.2
 refine J.bind λx2 h1=> ?_
 have e_h1:=H352_0 _ _ h1
 try simp only[NN,NT,LN,simprocAttr,DT]at e_h1
 refine J.some ?_
 simp (maxSteps:=20000000) (disch:=first|exact Zd|fail) only[bodyOf,Tryz.f282,ZZ,d282_at,simprocAttr,c4_p1,c3_p1,b4_p1,b3_p1,nm_p1,e_h1,FN]
noncomputable def t282(fu:Nat)(x1:List Int)(p1:Int->Option Bool)(fv_p1:FuncId)(ca_p1:List AV):CallP:=orE 352 (mkC (λ(t:List Int)=>([.arr t.length (lm (ik .i64) t),.fn fv_p1 [] ca_p1]:List AV)) (λt=>slices_IndexFunc_int64 fu t p1) e352) (orE fv_p1 (mkC (λ(t:Int)=>((.v (.int .i64 t))::ca_p1:List AV)) (λt=>p1 t) (λr=> .v (.bool r))) (noP))
theorem t282_ok(fu:Nat)(x1:List Int)(p1:Int->Option Bool)(fv_p1:FuncId)(ca_p1:List AV)(cap_p1:Capt ca_p1)(hp_p1: ∀ (y0:Int) r,p1 y0=some r->PureOK prog fv_p1 ((.v (.int .i64 y0))::ca_p1) (.v (.bool r))):CpOK prog (t282 fu x1 p1 fv_p1 ca_p1):=orE_ok (orE_ok (noP_ok) (mkC_ok (λt b h=>hp_p1 t b h))) (mkC_ok (λt b h=>ok352 fu t p1 fv_p1 ca_p1 cap_p1 hp_p1 b h))
theorem ok282(fu:Nat)(x1:List Int)(p1:Int→Option Bool)(fv_p1:FuncId)(ca_p1:List AV)(cap_p1:Capt ca_p1)(hp_p1: ∀ (y0:Int) r,p1 y0=some r→PureOK prog fv_p1 ((.v (.int .i64 y0))::ca_p1) (.v (.bool r)))(r)(h:slices_ContainsFunc_int64 fu x1 p1=some r):PureOK prog 282 [.arr x1.length (lm (ik .i64) x1),.fn fv_p1 [] ca_p1] (e282 r):=
  pure_J mixed (cp:=t282 fu x1 p1 fv_p1 ca_p1) (t282_ok fu x1 p1 fv_p1 ca_p1 cap_p1 hp_p1) noI_ok i282 (w282 _ fu x1 p1 fv_p1 ca_p1 cap_p1 (λy0 r h=>orE_skip (λhfv=>mkC_none (by intro t h;simp at h)) (orE_hit (mkC_at (a:=y0) (by intro a b h;first|(exact rfl)|(simp only[INJ,IJ]at h;first|exact h|(simp_all [Prod.ext_iff]))) h))) (λa0 r h=>orE_hit (mkC_at (a:=a0) (by intro a b h;first|(exact rfl)|(simp only[INJ,IJ]at h;first|exact h|(simp_all [Prod.ext_iff]))) h))) h
def d283:TD:=[(0,[2]),(0,[]),(0,[0,3,4])]
def d283_at:=by have h:=tabL d283.eq_1;simp only[AllAt,Nat.zero_add,Nat.reduceAdd]at h;exact h
theorem i283:finfo prog 283 d283=some ⟨bodyOf Tryz.f283,[.tmp 2],[4]⟩:=fA Tryz.func283
def e283:Bool->AV:=λr=> .v (.bool r)
theorem w283(cp:CallP)(fu:Nat)(x1:Int):J (go prog noC cp noI 0 [] d283 fu (fin prog [.tmp 2] [4]) (bodyOf Tryz.f283) (initE 0 [.v (.int .i64 x1)]) [] []) (infer_ask_told_3_1 fu x1) e283:=by
 unfold infer_ask_told_3_1 e283
 have da:=d283_at
 conv=>arg 1;simp only[bodyOf,Tryz.f283]
 have z0:=d283_at
 exact Wk
theorem ok283(fu:Nat)(x1:Int)(r)(h:infer_ask_told_3_1 fu x1=some r):PureOK prog 283 [.v (.int .i64 x1)] (e283 r):=pureT mixed [] (ids:=[]) rfl (by decide) i283 (C:=noC) (ci:=λcp=>noI) (λcp ok=>noI_ok) (λcp H=>w283 cp fu x1) h
def d281:TD:=[(0,[0,2]),(0,[]),(0,[1,3,4,5,6])]
def d281_at:=by have h:=tabL d281.eq_1;simp only[AllAt,Nat.zero_add,Nat.reduceAdd]at h;exact h
theorem i281:finfo prog 281 d281=some ⟨bodyOf Tryz.f281,[.tmp 2],[4]⟩:=fA Tryz.func281
def e281:Bool->AV:=λr=> .v (.bool r)
structure K282 (fu:Nat) (cp:CallP):Prop where
 ap: ∀ {a0:List Int} {r},slices_ContainsFunc_int64 fu a0 (λy0=>infer_ask_told_3_1 fu y0)=some r->cp 282 [.arr a0.length (lm (ik .i64) a0),.fn 283 [] []]=some (.v (.bool r))
noncomputable def C282(fu:Nat):Cm prog (List Int) Bool:=⟨282,λt=>[.arr t.length (lm (ik .i64) t),.fn 283 [] []],λt=>slices_ContainsFunc_int64 fu t (λy0=>infer_ask_told_3_1 fu y0),e282,λt b h=>ok282 fu t (λy0=>infer_ask_told_3_1 fu y0) 283 [] Capt.nil (λy0 r h=>ok283 fu y0 r h) b h,Zi⟩
theorem u282{fu:Nat}{cp:CallP}(H:Hit cp (C282 fu).ct):K282 fu cp:=⟨λ {a0 r} h=>(C282 fu).at H a0 r h⟩
theorem w281(cp:CallP)(fu:Nat)(x1:T_Val)(H1:K282 fu cp):J (go prog noC cp noI 0 [] d281 fu (fin prog [.tmp 2] [4]) (bodyOf Tryz.f281) (initE 0 [.agg (c_T_Val x1)]) [] []) (infer_ask_told_3 fu x1) e281:=by
 unfold infer_ask_told_3 e281
 have da:=d281_at
 conv=>arg 1;simp only[bodyOf,Tryz.f281]
 have z0:=d281_at
 exact Wk
theorem ok281(fu:Nat)(x1:T_Val)(r)(h:infer_ask_told_3 fu x1=some r):PureOK prog 281 [.agg (c_T_Val x1)] (e281 r):=pureT mixed [(C282 fu).ct] (ids:=[282]) rfl (by decide) i281 (C:=noC) (ci:=λcp=>noI) (λcp ok=>noI_ok) (λcp H=>w281 cp fu x1 (u282 H.1)) h
open Aw (d177)
def d177_at:=by have h:=tabL Aw.d177.eq_1;simp only[AllAt,Nat.zero_add,Nat.reduceAdd]at h;exact h
theorem i177:finfo prog 177 d177=some ⟨bodyOf Tryz.f177,[.tmp 2],[34]⟩:=fA Tryz.func177
def e177:Int->AV:=λr=> .v (.int .i64 r)
theorem w177(cp:CallP)(fu:Nat)(x1:T_infer_ask)(H276_0: ∀ (a0:T_infer_ask) r,infer_ask_lists fu a0=some r→cp 276 [.agg (c_T_infer_ask a0)]=some (.fresh 8 r.length (fm c_T_Val r)))(H277_0: ∀ (a0:List T_Val) r,slices_ContainsFunc_api_Val_api_Val fu a0 (fun y0=>infer_ask_told_1 fu y0)=some r→cp 277 [.arr a0.length (fm c_T_Val a0),.fn 278 [] []]=some (.v (.bool r)))(H277_1: ∀ (a0:List T_Val) r,slices_ContainsFunc_api_Val_api_Val fu a0 (fun y0=>infer_ask_told_2 fu y0)=some r→cp 277 [.arr a0.length (fm c_T_Val a0),.fn 280 [] []]=some (.v (.bool r)))(H277_2: ∀ (a0:List T_Val) r,slices_ContainsFunc_api_Val_api_Val fu a0 (fun y0=>infer_ask_told_3 fu y0)=some r→cp 277 [.arr a0.length (fm c_T_Val a0),.fn 281 [] []]=some (.v (.bool r))):J (go prog noC cp noI 0 [] d177 fu (fin prog [.tmp 2] [34]) (bodyOf Tryz.f177) (initE 0 [.agg (c_T_infer_ask x1)]) [] []) (infer_ask_told fu x1) e177:=by
 unfold infer_ask_told e177
 have da:=d177_at
 refine J.bind λx2 h1=> ?_
 have e_h1:=H276_0 _ _ h1
 try simp only[NN,NT,LN,simprocAttr,DT]at e_h1
 conv=>arg 1;simp (disch:=first|exact Zd|fail) only[bodyOf,Tryz.f177,ZZ,d177_at,simprocAttr,e_h1]
 refine J.eq go_seq ?_
 refine J.bind λx3 h2=> ?_
 have e_h2:=H277_0 _ _ h2
 try simp only[NN,NT,LN,simprocAttr,DT]at e_h2
 refine Jc ?_
 refine J.ite (λh3=> ?_) (λh3=> ?_)
 ·have h3':x3=true:=h3
  refine J.some ?_
  exact Js
 ·have h3':x3=false:=Bool.eq_false_iff.2 h3
  refine J.bind λx4 h4=> ?_
  have e_h4:=H277_1 _ _ h4
  try simp only[NN,NT,LN,simprocAttr,DT]at e_h4
  refine Jc ?_
  refine J.ite (λh5=> ?_) (λh5=> ?_)
  ·have h5':x4=true:=h5
   refine J.some ?_
   exact Js
  ·have h5':x4=false:=Bool.eq_false_iff.2 h5
   refine Jc ?_
   refine J.eq go_seq ?_
   refine Jc ?_
   refine J.ite (λh6=> ?_) (λh6=> ?_)
   ·exact J.none
   ·have h6':=decide_eq_false h6
    refine J.bind λx5 h7=> ?_
    have e_h7:=H277_2 _ _ h7
    try simp only[NN,NT,LN,simprocAttr,DT]at e_h7
    refine Jc ?_
    refine J.eq ret_seq ?_
    refine Jc ?_
    refine J.ite (λh8=> ?_) (λh8=> ?_)
    ·have h8':x5=true:=h8
     refine J.some ?_
     exact Js
    ·have h8':x5=false:=Bool.eq_false_iff.2 h8
     refine Jc ?_
     refine J.eq ret_seq ?_
     refine J.some ?_
     exact Js
noncomputable def t177(fu:Nat):CallP:=orE 276 (mkC (λ(t:T_infer_ask)=>([.agg (c_T_infer_ask t)]:List AV)) (λt=>infer_ask_lists fu t) e276) (orE 277 (mkC (λ(t:List T_Val)=>([.arr t.length (fm c_T_Val t),.fn 278 [] []]:List AV)) (λt=>slices_ContainsFunc_api_Val_api_Val fu t (λy0=>infer_ask_told_1 fu y0)) e277) (orE 277 (mkC (λ(t:List T_Val)=>([.arr t.length (fm c_T_Val t),.fn 280 [] []]:List AV)) (λt=>slices_ContainsFunc_api_Val_api_Val fu t (λy0=>infer_ask_told_2 fu y0)) e277) (orE 277 (mkC (λ(t:List T_Val)=>([.arr t.length (fm c_T_Val t),.fn 281 [] []]:List AV)) (λt=>slices_ContainsFunc_api_Val_api_Val fu t (λy0=>infer_ask_told_3 fu y0)) e277) (noP))))
theorem t177_ok(fu:Nat):CpOK prog (t177 fu):=orE_ok (orE_ok (orE_ok (orE_ok (noP_ok) (mkC_ok (λt b h=>ok277 fu t (λy0=>infer_ask_told_3 fu y0) 281 [] Capt.nil (λy0 r h=>ok281 fu y0 r h) b h))) (mkC_ok (λt b h=>ok277 fu t (λy0=>infer_ask_told_2 fu y0) 280 [] Capt.nil (λy0 r h=>ok280 fu y0 r h) b h))) (mkC_ok (λt b h=>ok277 fu t (λy0=>infer_ask_told_1 fu y0) 278 [] Capt.nil (λy0 r h=>ok278 fu y0 r h) b h))) (mkC_ok (λt b h=>ok276 fu t b h))
theorem ok177(fu:Nat)(x1:T_infer_ask)(r)(h:infer_ask_told fu x1=some r):PureOK prog 177 [.agg (c_T_infer_ask x1)] (e177 r):=
  pure_J mixed (cp:=t177 fu) (t177_ok fu) noI_ok i177 (w177 _ fu x1 (λa0 r h=>orE_hit (mkC_at (a:=a0) (by intro a b h;first|(exact rfl)|(simp only[INJ,IJ]at h;first|exact h|(simp_all [Prod.ext_iff]))) h)) (λa0 r h=>orE_miss (by decide) (orE_hit (mkC_at (a:=a0) (by intro a b h;first|(exact rfl)|(simp only[INJ,IJ]at h;first|exact h|(simp_all [Prod.ext_iff]))) h))) (λa0 r h=>orE_miss (by decide) (orE_next (mkC_none (by intro t h;simp at h)) (orE_hit (mkC_at (a:=a0) (by intro a b h;first|(exact rfl)|(simp only[INJ,IJ]at h;first|exact h|(simp_all [Prod.ext_iff]))) h)))) (λa0 r h=>orE_miss (by decide) (orE_next (mkC_none (by intro t h;simp at h)) (orE_next (mkC_none (by intro t h;simp at h)) (orE_hit (mkC_at (a:=a0) (by intro a b h;first|(exact rfl)|(simp only[INJ,IJ]at h;first|exact h|(simp_all [Prod.ext_iff]))) h)))))) h
open Aw (d109)
def d109_at:=by have h:=tabL Aw.d109.eq_1;simp only[AllAt,Nat.zero_add,Nat.reduceAdd]at h;exact h
theorem i109:finfo prog 109 d109=some ⟨bodyOf Tryz.f109,[.tmp 2],[34]⟩:=fA Tryz.func109
def e109:Int->AV:=λr=> .v (.int .i64 r)
structure K175 (fu:Nat) (cp:CallP):Prop where
 ap: ∀ {a0:T_infer_ask} {r},infer_ask_typed fu a0=some r->cp 175 [.agg (c_T_infer_ask a0)]=some (.v (.bool r))
noncomputable def C175(fu:Nat):Cm prog T_infer_ask Bool:=⟨175,λt=>[.agg (c_T_infer_ask t)],λt=>infer_ask_typed fu t,e175,λt b h=>ok175 fu t b h,Zi⟩
theorem u175{fu:Nat}{cp:CallP}(H:Hit cp (C175 fu).ct):K175 fu cp:=⟨λ {a0 r} h=>(C175 fu).at H a0 r h⟩
structure K176 (fu:Nat) (cp:CallP):Prop where
 ap: ∀ {a0:T_infer_ask} {r},infer_ask_attributes fu a0=some r->cp 176 [.agg (c_T_infer_ask a0)]=some (.v (.bool r))
noncomputable def C176(fu:Nat):Cm prog T_infer_ask Bool:=⟨176,λt=>[.agg (c_T_infer_ask t)],λt=>infer_ask_attributes fu t,e176,λt b h=>ok176 fu t b h,Zi⟩
theorem u176{fu:Nat}{cp:CallP}(H:Hit cp (C176 fu).ct):K176 fu cp:=⟨λ {a0 r} h=>(C176 fu).at H a0 r h⟩
structure K177 (fu:Nat) (cp:CallP):Prop where
 ap: ∀ {a0:T_infer_ask} {r},infer_ask_told fu a0=some r->cp 177 [.agg (c_T_infer_ask a0)]=some (.v (.int .i64 r))
noncomputable def C177(fu:Nat):Cm prog T_infer_ask Int:=⟨177,λt=>[.agg (c_T_infer_ask t)],λt=>infer_ask_told fu t,e177,λt b h=>ok177 fu t b h,Zi⟩
theorem u177{fu:Nat}{cp:CallP}(H:Hit cp (C177 fu).ct):K177 fu cp:=⟨λ {a0 r} h=>(C177 fu).at H a0 r h⟩
def infer_ask_wrong.m1:LJ 1 4 Unit Int:=⟨λr s e=>[(1,er e 1),(8,er e 8),(9,er e 9),(10,.v (.int .i64 s))],λr s h=>[((0,1,0),hr h (0,1,0))]⟩
def infer_ask_wrong.j1:LJ 1 5 Unit Unit:=⟨λr t e=>[(1,er e 1)],λr t h=>[((0,1,0),hr h (0,1,0))]⟩
open infer_ask_wrong in
theorem w109(cp:CallP)(fu:Nat)(x1:T_infer_ask)(H1:K54 fu cp)(H2:K174 fu cp)(H3:K175 fu cp)(H4:K176 fu cp)(H5:K177 fu cp):J (go prog noC cp noI 0 [] d109 fu (fin prog [.tmp 2] [34]) (bodyOf Tryz.f109) (initE 0 [.agg (c_T_infer_ask x1)]) [] []) (infer_ask_wrong fu x1) e109:=by
 unfold infer_ask_wrong e109
 have da:=d109_at
 conv=>arg 1;simp only[bodyOf,Tryz.f109]
 have z0:=d109_at
 exact Wk
theorem ok109(fu:Nat)(x1:T_infer_ask)(r)(h:infer_ask_wrong fu x1=some r):PureOK prog 109 [.agg (c_T_infer_ask x1)] (e109 r):=pureT mixed [(C54 fu).ct,(C174 fu).ct,(C175 fu).ct,(C176 fu).ct,(C177 fu).ct] (ids:=[54,174,175,176,177]) rfl (by decide) i109 (C:=noC) (ci:=λcp=>noI) (λcp ok=>noI_ok) (λcp H=>w109 cp fu x1 (u54 H.1) (u174 H.2.1) (u175 H.2.2.1) (u176 H.2.2.2.1) (u177 H.2.2.2.2.1)) h
open Aw (d192)
def d192_at:=by have h:=tabL Aw.d192.eq_1;simp only[AllAt,Nat.zero_add,Nat.reduceAdd]at h;exact h
theorem i192:finfo prog 192 d192=some ⟨bodyOf Tryz.f192,[.tmp 4,.tmp 5],[22,34]⟩:=fA Tryz.func192
def e192:((List Int)×Int)->AV:=λr=> .tuple [.fresh 1 r.1.length (lm (ik .i64) r.1),.v (.int .i64 r.2)]
def shape_Broadcast.m1:LJ 1 26 Unit ((List Int)×Int):=⟨λr s e=>[(10,.own (0,42,0) 0 s.1.length s.1.length),(11,er e 11),(48,er e 48),(49,er e 49),(50,.v (.int .i64 s.2))],λr s h=>[((0,42,0),.sl true true 1 s.1.length (lm (ik .i64) s.1))]⟩
def shape_Broadcast.j3:LJ 3 42 Unit (List Int):=⟨λr t e=>[(10,.own (0,42,0) 0 t.length t.length)],λr t h=>[((0,42,0),.sl true true 1 t.length (lm (ik .i64) t))]⟩
def shape_Broadcast.j2:LJ 2 20 Unit ((List Int)×(List Int)):=⟨λr t e=>[(0,.arr t.1.length (lm (ik .i64) t.1)),(1,.arr t.2.length (lm (ik .i64) t.2))],λr t h=>[]⟩
def shape_Broadcast.m2:LJ 2 4 Unit ((List (List Int))×Int):=⟨λr s e=>[(0,er e 0),(1,er e 1),(19,.own (0,19,0) 0 s.1.length s.1.length),(20,er e 20),(21,.v (.int .i64 s.2))],λr s h=>[((0,19,0),.sl true true 1 s.1.length (lm (avl (ik .i64)) s.1))]⟩
def shape_Broadcast.j1:LJ 1 16 Unit (List (List Int)):=⟨λr t e=>[(0,er e 0),(1,er e 1)],λr t h=>[((0,19,0),.sl true true 1 t.length (lm (avl (ik .i64)) t))]⟩
open shape_Broadcast in
theorem w192(cp:CallP)(fu:Nat)(x1:List Int)(x2:List Int)(H1:K54 fu cp)(H2:K48 fu cp):J (go prog noC cp noI 0 [] d192 fu (fin prog [.tmp 4,.tmp 5] [22,34]) (bodyOf Tryz.f192) (initE 0 [.arr x1.length (lm (ik .i64) x1),.arr x2.length (lm (ik .i64) x2)]) [] []) (shape_Broadcast fu x1 x2) e192:=by
 unfold shape_Broadcast e192
 have da:=d192_at
 conv=>arg 1;simp only[bodyOf,Tryz.f192]
 have z0:=d192_at
 exact Wk
theorem ok192(fu:Nat)(x1:List Int)(x2:List Int)(r)(h:shape_Broadcast fu x1 x2=some r):PureOK prog 192 [.arr x1.length (lm (ik .i64) x1),.arr x2.length (lm (ik .i64) x2)] (e192 r):=pureT mixed [(C54 fu).ct,(C48 fu).ct] (ids:=[54,48]) rfl (by decide) i192 (C:=noC) (ci:=λcp=>noI) (λcp ok=>noI_ok) (λcp H=>w192 cp fu x1 x2 (u54 H.1) (u48 H.2.1)) h
open Aw (d189)
def d189_at:=by have h:=tabL Aw.d189.eq_1;simp only[AllAt,Nat.zero_add,Nat.reduceAdd]at h;exact h
theorem i189:finfo prog 189 d189=some ⟨bodyOf Tryz.f189,[.tmp 2,.tmp 3],[77,34]⟩:=fA Tryz.func189
def e189:((List (List Int))×Int)->AV:=λr=> .tuple [.arr r.1.length (lm (avl (ik .i64)) r.1),.v (.int .i64 r.2)]
theorem w189(cp:CallP)(fu:Nat)(x1:List Int):J (go prog noC cp noI 0 [] d189 fu (finS prog [.tmp 2,.tmp 3] [77,34]) (bodyOf Tryz.f189) (initE 0 [.arr x1.length (lm (ik .i64) x1)]) [] []) (infer_one fu x1) e189:=by
 unfold infer_one e189
 have da:=d189_at
 conv=>arg 1;simp only[bodyOf,Tryz.f189]
 have z0:=d189_at
 have z1:=SE
 exact Wk
theorem ok189(fu:Nat)(x1:List Int)(r)(h:infer_one fu x1=some r):PureOK prog 189 [.arr x1.length (lm (ik .i64) x1)] (e189 r):=pureST mixed [] (ids:=[]) rfl (by decide) i189 (C:=noC) (ci:=λcp=>noI) (λcp ok=>noI_ok) (λcp H=>w189 cp fu x1) h
open Aw (d179)
def d179_at:=by have h:=tabL Aw.d179.eq_1;simp only[AllAt,Nat.zero_add,Nat.reduceAdd]at h;exact h
theorem i179:finfo prog 179 d179=some ⟨bodyOf Tryz.f179,[.tmp 2,.tmp 3],[77,34]⟩:=fA Tryz.func179
def e179:((List (List Int))×Int)->AV:=λr=> .tuple [.arr r.1.length (lm (avl (ik .i64)) r.1),.v (.int .i64 r.2)]
structure K192 (fu:Nat) (cp:CallP):Prop where
 ap: ∀ {a0:List Int} {a1:List Int} {r},shape_Broadcast fu a0 a1=some r->cp 192 [.arr a0.length (lm (ik .i64) a0),.arr a1.length (lm (ik .i64) a1)]=some (.tuple [.fresh 1 r.1.length (lm (ik .i64) r.1),.v (.int .i64 r.2)])
noncomputable def C192(fu:Nat):Cm prog ((List Int)×(List Int)) ((List Int)×Int):=⟨192,λt=>[.arr t.1.length (lm (ik .i64) t.1),.arr t.2.length (lm (ik .i64) t.2)],λt=>shape_Broadcast fu t.1 t.2,e192,λt b h=>ok192 fu t.1 t.2 b h,Zi⟩
theorem u192{fu:Nat}{cp:CallP}(H:Hit cp (C192 fu).ct):K192 fu cp:=⟨λ {a0 a1 r} h=>(C192 fu).at H (a0,a1) r h⟩
structure K189 (fu:Nat) (cp:CallP):Prop where
 ap: ∀ {a0:List Int} {r},infer_one fu a0=some r->cp 189 [.arr a0.length (lm (ik .i64) a0)]=some (.tuple [.arr r.1.length (lm (avl (ik .i64)) r.1),.v (.int .i64 r.2)])
noncomputable def C189(fu:Nat):Cm prog (List Int) ((List (List Int))×Int):=⟨189,λt=>[.arr t.length (lm (ik .i64) t)],λt=>infer_one fu t,e189,λt b h=>ok189 fu t b h,Zi⟩
theorem u189{fu:Nat}{cp:CallP}(H:Hit cp (C189 fu).ct):K189 fu cp:=⟨λ {a0 r} h=>(C189 fu).at H a0 r h⟩
def infer_ask_together.m1:LJ 1 6 Unit ((List Int)×Int):=⟨λr s e=>[(1,er e 1),(4,.arr s.1.length (lm (ik .i64) s.1)),(5,.v (.int .i64 s.2))],λr s h=>[((0,1,0),hr h (0,1,0))]⟩
def infer_ask_together.j1:LJ 1 18 Unit (List Int):=⟨λr t e=>[(4,.arr t.length (lm (ik .i64) t))],λr t h=>[((0,1,0),hr h (0,1,0))]⟩
open infer_ask_together in
theorem w179(cp:CallP)(fu:Nat)(x1:T_infer_ask)(H1:K178 fu cp)(H2:K192 fu cp)(H3:K189 fu cp):J (go prog noC cp noI 0 [] d179 fu (finS prog [.tmp 2,.tmp 3] [77,34]) (bodyOf Tryz.f179) (initE 0 [.agg (c_T_infer_ask x1)]) [] []) (infer_ask_together fu x1) e179:=by
 unfold infer_ask_together e179
 have da:=d179_at
 conv=>arg 1;simp only[bodyOf,Tryz.f179]
 have z0:=d179_at
 have z1:=SE
 exact Wk
theorem ok179(fu:Nat)(x1:T_infer_ask)(r)(h:infer_ask_together fu x1=some r):PureOK prog 179 [.agg (c_T_infer_ask x1)] (e179 r):=pureST mixed [(C178 fu).ct,(C192 fu).ct,(C189 fu).ct] (ids:=[178,192,189]) rfl (by decide) i179 (C:=noC) (ci:=λcp=>noI) (λcp ok=>noI_ok) (λcp H=>w179 cp fu x1 (u178 H.1) (u192 H.2.1) (u189 H.2.2.1)) h
def d180:TD:=[(0,[4]),(0,[1,5,6]),(0,[0,7,8,9,10,11,12]),(0,[]),(0,[14,15]),(0,[]),(0,[16]),(0,[]),(0,[18,19,20,21,22,23,24,25]),(0,[]),(0,[]),(0,[]),(0,[])]
def d180_at:=by have h:=tabL d180.eq_1;simp only[AllAt,Nat.zero_add,Nat.reduceAdd]at h;exact h
theorem i180:finfo prog 180 d180=some ⟨bodyOf Tryz.f180,[.tmp 4],[34]⟩:=fA Tryz.func180
def e180:Int->AV:=λr=> .v (.int .i64 r)
theorem w180(cp:CallP)(fu:Nat)(x1:List Int)(x2:List Int)(H1:K192 fu cp)(H2:K193 fu cp):J (go prog noC cp noI 0 [] d180 fu (fin prog [.tmp 4] [34]) (bodyOf Tryz.f180) (initE 0 [.arr x1.length (lm (ik .i64) x1),.arr x2.length (lm (ik .i64) x2)]) [] []) (infer_within fu x1 x2) e180:=by
 unfold infer_within e180
 have da:=d180_at
 conv=>arg 1;simp only[bodyOf,Tryz.f180]
 have z0:=d180_at
 exact Wk
theorem ok180(fu:Nat)(x1:List Int)(x2:List Int)(r)(h:infer_within fu x1 x2=some r):PureOK prog 180 [.arr x1.length (lm (ik .i64) x1),.arr x2.length (lm (ik .i64) x2)] (e180 r):=pureT mixed [(C192 fu).ct,(C193 fu).ct] (ids:=[192,193]) rfl (by decide) i180 (C:=noC) (ci:=λcp=>noI) (λcp ok=>noI_ok) (λcp H=>w180 cp fu x1 x2 (u192 H.1) (u193 H.2.1)) h
open Aw (d110)
def d110_at:=by have h:=tabL Aw.d110.eq_1;simp only[AllAt,Nat.zero_add,Nat.reduceAdd]at h;exact h
theorem i110:finfo prog 110 d110=some ⟨bodyOf Tryz.f110,[.tmp 2,.tmp 3],[77,34]⟩:=fA Tryz.func110
def e110:((List (List Int))×Int)->AV:=λr=> .tuple [.arr r.1.length (lm (avl (ik .i64)) r.1),.v (.int .i64 r.2)]
structure K179 (fu:Nat) (cp:CallP):Prop where
 ap: ∀ {a0:T_infer_ask} {r},infer_ask_together fu a0=some r->cp 179 [.agg (c_T_infer_ask a0)]=some (.tuple [.arr r.1.length (lm (avl (ik .i64)) r.1),.v (.int .i64 r.2)])
noncomputable def C179(fu:Nat):Cm prog T_infer_ask ((List (List Int))×Int):=⟨179,λt=>[.agg (c_T_infer_ask t)],λt=>infer_ask_together fu t,e179,λt b h=>ok179 fu t b h,Zi⟩
theorem u179{fu:Nat}{cp:CallP}(H:Hit cp (C179 fu).ct):K179 fu cp:=⟨λ {a0 r} h=>(C179 fu).at H a0 r h⟩
structure K180 (fu:Nat) (cp:CallP):Prop where
 ap: ∀ {a0:List Int} {a1:List Int} {r},infer_within fu a0 a1=some r->cp 180 [.arr a0.length (lm (ik .i64) a0),.arr a1.length (lm (ik .i64) a1)]=some (.v (.int .i64 r))
noncomputable def C180(fu:Nat):Cm prog ((List Int)×(List Int)) Int:=⟨180,λt=>[.arr t.1.length (lm (ik .i64) t.1),.arr t.2.length (lm (ik .i64) t.2)],λt=>infer_within fu t.1 t.2,e180,λt b h=>ok180 fu t.1 t.2 b h,Zi⟩
theorem u180{fu:Nat}{cp:CallP}(H:Hit cp (C180 fu).ct):K180 fu cp:=⟨λ {a0 a1 r} h=>(C180 fu).at H (a0,a1) r h⟩
def infer_ask_shapes.j4:LJ 4 222 T_infer_ask Unit:=⟨λr t e=>[(1,er e 1),(4,er e 4),(9,er e 9),(10,er e 10),(54,er e 54),(78,.v (.bool (decide (r.fop=71))))],λr t h=>[((0,1,0),hr h (0,1,0))]⟩
def infer_ask_shapes.j3:LJ 3 190 T_infer_ask Unit:=⟨λr t e=>[(1,er e 1),(4,er e 4),(9,er e 9),(10,er e 10),(54,.v (.bool (decide (r.fop=64))))],λr t h=>[((0,1,0),hr h (0,1,0))]⟩
def infer_ask_shapes.j2:LJ 2 82 Unit Bool:=⟨λr t e=>[(1,er e 1),(4,er e 4),(9,er e 9),(10,.v (.bool t))],λr t h=>[((0,1,0),hr h (0,1,0))]⟩
def infer_ask_shapes.j1:LJ 1 138 Unit Unit:=⟨λr t e=>[(4,er e 4)],λr t h=>[((0,1,0),hr h (0,1,0))]⟩
open infer_ask_shapes in
theorem w110(cp:CallP)(fu:Nat)(x1:T_infer_ask)(H1:K178 fu cp)(H2:K179 fu cp)(H3:K180 fu cp)(H4:K189 fu cp):J (go prog noC cp noI 0 [] d110 fu (finS prog [.tmp 2,.tmp 3] [77,34]) (bodyOf Tryz.f110) (initE 0 [.agg (c_T_infer_ask x1)]) [] []) (infer_ask_shapes fu x1) e110:=by
 unfold infer_ask_shapes e110
 have da:=d110_at
 conv=>arg 1;simp only[bodyOf,Tryz.f110]
 have z0:=d110_at
 have z1:=SE
 exact Wk
theorem ok110(fu:Nat)(x1:T_infer_ask)(r)(h:infer_ask_shapes fu x1=some r):PureOK prog 110 [.agg (c_T_infer_ask x1)] (e110 r):=pureST mixed [(C178 fu).ct,(C179 fu).ct,(C180 fu).ct,(C189 fu).ct] (ids:=[178,179,180,189]) rfl (by decide) i110 (C:=noC) (ci:=λcp=>noI) (λcp ok=>noI_ok) (λcp H=>w110 cp fu x1 (u178 H.1) (u179 H.2.1) (u180 H.2.2.1) (u189 H.2.2.2.1)) h
open Aw (d111)
def d111_at:=by have h:=tabL Aw.d111.eq_1;simp only[AllAt,Nat.zero_add,Nat.reduceAdd]at h;exact h
theorem i111:finfo prog 111 d111=some ⟨bodyOf Tryz.f111,[.tmp 2],[3]⟩:=fA Tryz.func111
def e111:Int->AV:=λr=> .v (.int .i64 r)
def infer_ask_out.j3:LJ 3 74 T_infer_ask Unit:=⟨λr t e=>[(1,er e 1),(4,er e 4),(5,er e 5),(17,.v (.bool (decide (r.fop=71))))],λr t h=>[((0,1,0),hr h (0,1,0))]⟩
def infer_ask_out.j2:LJ 2 54 Unit Bool:=⟨λr t e=>[(1,er e 1),(4,er e 4),(5,.v (.bool t))],λr t h=>[((0,1,0),hr h (0,1,0))]⟩
def infer_ask_out.j1:LJ 1 50 Unit Unit:=⟨λr t e=>[(1,er e 1)],λr t h=>[((0,1,0),hr h (0,1,0))]⟩
open infer_ask_out in
theorem w111(cp:CallP)(fu:Nat)(x1:T_infer_ask)(H1:K190 fu cp):J (go prog noC cp noI 0 [] d111 fu (fin prog [.tmp 2] [3]) (bodyOf Tryz.f111) (initE 0 [.agg (c_T_infer_ask x1)]) [] []) (infer_ask_out fu x1) e111:=by
 unfold infer_ask_out e111
 have da:=d111_at
 conv=>arg 1;simp only[bodyOf,Tryz.f111]
 have z0:=d111_at
 exact Wk
theorem ok111(fu:Nat)(x1:T_infer_ask)(r)(h:infer_ask_out fu x1=some r):PureOK prog 111 [.agg (c_T_infer_ask x1)] (e111 r):=pureT mixed [(C190 fu).ct] (ids:=[190]) rfl (by decide) i111 (C:=noC) (ci:=λcp=>noI) (λcp ok=>noI_ok) (λcp H=>w111 cp fu x1 (u190 H.1)) h
open Aw (d52)
def d52_at:=by have h:=tabL Aw.d52.eq_1;simp only[AllAt,Nat.zero_add,Nat.reduceAdd]at h;exact h
theorem i52:finfo prog 52 d52=some ⟨bodyOf Tryz.f52,[.tmp 8,.tmp 9],[46,34]⟩:=fA Tryz.func52
def e52:((List T_Val)×Int)->AV:=λr=> .tuple [.arr r.1.length (fm c_T_Val r.1),.v (.int .i64 r.2)]
structure K108 (fu:Nat) (cp:CallP):Prop where
 ap: ∀ {a0:T_infer_ask} {r},infer_ask_complete fu a0=some r->cp 108 [.agg (c_T_infer_ask a0)]=some (.v (.bool r))
noncomputable def C108(fu:Nat):Cm prog T_infer_ask Bool:=⟨108,λt=>[.agg (c_T_infer_ask t)],λt=>infer_ask_complete fu t,e108,λt b h=>ok108 fu t b h,Zi⟩
theorem u108{fu:Nat}{cp:CallP}(H:Hit cp (C108 fu).ct):K108 fu cp:=⟨λ {a0 r} h=>(C108 fu).at H a0 r h⟩
structure K109 (fu:Nat) (cp:CallP):Prop where
 ap: ∀ {a0:T_infer_ask} {r},infer_ask_wrong fu a0=some r->cp 109 [.agg (c_T_infer_ask a0)]=some (.v (.int .i64 r))
noncomputable def C109(fu:Nat):Cm prog T_infer_ask Int:=⟨109,λt=>[.agg (c_T_infer_ask t)],λt=>infer_ask_wrong fu t,e109,λt b h=>ok109 fu t b h,Zi⟩
theorem u109{fu:Nat}{cp:CallP}(H:Hit cp (C109 fu).ct):K109 fu cp:=⟨λ {a0 r} h=>(C109 fu).at H a0 r h⟩
structure K110 (fu:Nat) (cp:CallP):Prop where
 ap: ∀ {a0:T_infer_ask} {r},infer_ask_shapes fu a0=some r->cp 110 [.agg (c_T_infer_ask a0)]=some (.tuple [.arr r.1.length (lm (avl (ik .i64)) r.1),.v (.int .i64 r.2)])
noncomputable def C110(fu:Nat):Cm prog T_infer_ask ((List (List Int))×Int):=⟨110,λt=>[.agg (c_T_infer_ask t)],λt=>infer_ask_shapes fu t,e110,λt b h=>ok110 fu t b h,Zi⟩
theorem u110{fu:Nat}{cp:CallP}(H:Hit cp (C110 fu).ct):K110 fu cp:=⟨λ {a0 r} h=>(C110 fu).at H a0 r h⟩
structure K111 (fu:Nat) (cp:CallP):Prop where
 ap: ∀ {a0:T_infer_ask} {r},infer_ask_out fu a0=some r->cp 111 [.agg (c_T_infer_ask a0)]=some (.v (.int .i64 r))
noncomputable def C111(fu:Nat):Cm prog T_infer_ask Int:=⟨111,λt=>[.agg (c_T_infer_ask t)],λt=>infer_ask_out fu t,e111,λt b h=>ok111 fu t b h,Zi⟩
theorem u111{fu:Nat}{cp:CallP}(H:Hit cp (C111 fu).ct):K111 fu cp:=⟨λ {a0 r} h=>(C111 fu).at H a0 r h⟩
def infer_Node.m1:LJ 1 24 Unit ((List T_Val)×Int):=⟨λr s e=>[(10,er e 10),(14,.own (0,14,77) 0 s.1.length s.1.length),(40,er e 40),(41,er e 41),(42,.v (.int .i64 s.2))],λr s h=>[((0,10,0),hr h (0,10,0)),((0,14,77),.sl true true 8 s.1.length (fm c_T_Val s.1))]⟩
open infer_Node in
theorem w52(cp:CallP)(fu:Nat)(x1:Int)(x2:T_Setting)(x3:List T_Val)(x4:Int)(H1:K108 fu cp)(H2:K109 fu cp)(H3:K110 fu cp)(H4:K54 fu cp)(H5:K111 fu cp)(H6:K48 fu cp):J (go prog noC cp noI 0 [] d52 fu (finS prog [.tmp 8,.tmp 9] [46,34]) (bodyOf Tryz.f52) (initE 0 [.v (.int .i64 x1),.agg (c_T_Setting x2),.arr x3.length (fm c_T_Val x3),.v (.int .i64 x4)]) [] []) (infer_Node fu x1 x2 x3 x4) e52:=by
 unfold infer_Node e52
 have da:=d52_at
 conv=>arg 1;simp only[bodyOf,Tryz.f52]
 have z0:=d52_at
 have z1:=SE
 exact Wk
theorem ok52(fu:Nat)(x1:Int)(x2:T_Setting)(x3:List T_Val)(x4:Int)(r)(h:infer_Node fu x1 x2 x3 x4=some r):PureOK prog 52 [.v (.int .i64 x1),.agg (c_T_Setting x2),.arr x3.length (fm c_T_Val x3),.v (.int .i64 x4)] (e52 r):=pureST mixed [(C108 fu).ct,(C109 fu).ct,(C110 fu).ct,(C54 fu).ct,(C111 fu).ct,(C48 fu).ct] (ids:=[108,109,110,54,111,48]) rfl (by decide) i52 (C:=noC) (ci:=λcp=>noI) (λcp ok=>noI_ok) (λcp H=>w52 cp fu x1 x2 x3 x4 (u108 H.1) (u109 H.2.1) (u110 H.2.2.1) (u54 H.2.2.2.1) (u111 H.2.2.2.2.1) (u48 H.2.2.2.2.2.1)) h
open Aw (d53)
def d53_at:=by have h:=tabL Aw.d53.eq_1;simp only[AllAt,Nat.zero_add,Nat.reduceAdd]at h;exact h
theorem i53:finfo prog 53 d53=some ⟨bodyOf Tryz.f53,[.cell 4 28,.tmp 5],[28,34]⟩:=fA Tryz.func53
def e53:(T_Tensor×Int)->AV:=λr=> .tuple [.agg [.v (.int .i64 r.1.fType),.fresh 1 r.1.fDims.length (lm (ik .i64) r.1.fDims),.fresh 1 r.1.fF.length (lm (ik .u32) r.1.fF),.fresh 1 r.1.fI.length (lm (ik .i64) r.1.fI),.fresh 1 r.1.fB.length (lm (bk) r.1.fB)],.v (.int .i64 r.2)]
theorem w53(cp:CallP)(fu:Nat)(x1:Int)(x2:List Int)(H1:K106 fu cp)(H2:K54 fu cp)(H3:K48 fu cp):J (go prog noC cp noI 0 [] d53 fu (fin prog [.cell 4 28,.tmp 5] [28,34]) (bodyOf Tryz.f53) (initE 0 [.v (.int .i64 x1),.arr x2.length (lm (ik .i64) x2)]) [] []) (tens_New fu x1 x2) e53:=by
 unfold tens_New e53
 have da:=d53_at
 conv=>arg 1;simp only[bodyOf,Tryz.f53]
 have z0:=d53_at
 exact Wk
theorem ok53(fu:Nat)(x1:Int)(x2:List Int)(r)(h:tens_New fu x1 x2=some r):PureOK prog 53 [.v (.int .i64 x1),.arr x2.length (lm (ik .i64) x2)] (e53 r):=pureT mixed [(C106 fu).ct,(C54 fu).ct,(C48 fu).ct] (ids:=[106,54,48]) rfl (by decide) i53 (C:=noC) (ci:=λcp=>noI) (λcp ok=>noI_ok) (λcp H=>w53 cp fu x1 x2 (u106 H.1) (u54 H.2.1) (u48 H.2.2.1)) h
open Aw (d195)
def d195_at:=by have h:=tabL Aw.d195.eq_1;simp only[AllAt,Nat.zero_add,Nat.reduceAdd]at h;exact h
theorem i195:finfo prog 195 d195=some ⟨bodyOf Tryz.f195,[.tmp 2],[22]⟩:=fA Tryz.func195
def e195:(List Int)->AV:=λr=> .fresh 1 r.length (lm (ik .i64) r)
def shape_strides.m1:LJ 1 8 Unit ((List Int)×Int×Int):=⟨λr s e=>[(0,er e 0),(3,.own (0,8,0) 0 s.1.length s.1.length),(4,.v (.int .i64 s.2.1)),(5,.v (.int .i64 s.2.2))],λr s h=>[((0,8,0),.sl true true 1 s.1.length (lm (ik .i64) s.1))]⟩
open shape_strides in
theorem w195(cp:CallP)(fu:Nat)(x1:List Int):J (go prog noC cp noI 0 [] d195 fu (fin prog [.tmp 2] [22]) (bodyOf Tryz.f195) (initE 0 [.arr x1.length (lm (ik .i64) x1)]) [] []) (shape_strides fu x1) e195:=by
 unfold shape_strides e195
 have da:=d195_at
 conv=>arg 1;simp only[bodyOf,Tryz.f195]
 have z0:=d195_at
 exact Wk
theorem ok195(fu:Nat)(x1:List Int)(r)(h:shape_strides fu x1=some r):PureOK prog 195 [.arr x1.length (lm (ik .i64) x1)] (e195 r):=pureT mixed [] (ids:=[]) rfl (by decide) i195 (C:=noC) (ci:=λcp=>noI) (λcp ok=>noI_ok) (λcp H=>w195 cp fu x1) h
open Aw (d194)
def d194_at:=by have h:=tabL Aw.d194.eq_1;simp only[AllAt,Nat.zero_add,Nat.reduceAdd]at h;exact h
theorem i194:finfo prog 194 d194=some ⟨bodyOf Tryz.f194,[.tmp 4,.tmp 5],[22,34]⟩:=fA Tryz.func194
def e194:((List Int)×Int)->AV:=λr=> .tuple [.fresh 1 r.1.length (lm (ik .i64) r.1),.v (.int .i64 r.2)]
structure K195 (fu:Nat) (cp:CallP):Prop where
 ap: ∀ {a0:List Int} {r},shape_strides fu a0=some r->cp 195 [.arr a0.length (lm (ik .i64) a0)]=some (.fresh 1 r.length (lm (ik .i64) r))
noncomputable def C195(fu:Nat):Cm prog (List Int) (List Int):=⟨195,λt=>[.arr t.length (lm (ik .i64) t)],λt=>shape_strides fu t,e195,λt b h=>ok195 fu t b h,Zi⟩
theorem u195{fu:Nat}{cp:CallP}(H:Hit cp (C195 fu).ct):K195 fu cp:=⟨λ {a0 r} h=>(C195 fu).at H a0 r h⟩
def shape_Index.m1:LJ 1 16 Unit ((List Int)×Int×Int):=⟨λr s e=>[(1,.v (.int .i64 s.2.1)),(8,.own (0,28,0) 0 s.1.length s.1.length),(30,er e 30),(31,er e 31),(32,.v (.int .i64 s.2.2))],λr s h=>[((0,28,0),.sl true true 1 s.1.length (lm (ik .i64) s.1)),((0,30,0),hr h (0,30,0))]⟩
def shape_Index.j1:LJ 1 12 Unit Unit:=⟨λr t e=>[(0,er e 0),(1,er e 1)],λr t h=>[]⟩
open shape_Index in
theorem w194(cp:CallP)(fu:Nat)(x1:List Int)(x2:Int)(H1:K54 fu cp)(H2:K195 fu cp):J (go prog noC cp noI 0 [] d194 fu (fin prog [.tmp 4,.tmp 5] [22,34]) (bodyOf Tryz.f194) (initE 0 [.arr x1.length (lm (ik .i64) x1),.v (.int .i64 x2)]) [] []) (shape_Index fu x1 x2) e194:=by
 unfold shape_Index e194
 have da:=d194_at
 conv=>arg 1;simp only[bodyOf,Tryz.f194]
 have z0:=d194_at
 exact Wk
theorem ok194(fu:Nat)(x1:List Int)(x2:Int)(r)(h:shape_Index fu x1 x2=some r):PureOK prog 194 [.arr x1.length (lm (ik .i64) x1),.v (.int .i64 x2)] (e194 r):=pureT mixed [(C54 fu).ct,(C195 fu).ct] (ids:=[54,195]) rfl (by decide) i194 (C:=noC) (ci:=λcp=>noI) (λcp ok=>noI_ok) (λcp H=>w194 cp fu x1 x2 (u54 H.1) (u195 H.2.1)) h
open Aw (d115)
def d115_at:=by have h:=tabL Aw.d115.eq_1;simp only[AllAt,Nat.zero_add,Nat.reduceAdd]at h;exact h
theorem i115:finfo prog 115 d115=some ⟨bodyOf Tryz.f115,[.tmp 6,.tmp 7],[3,34]⟩:=fA Tryz.func115
def e115:(Int×Int)->AV:=λr=> .tuple [.v (.int .i64 r.1),.v (.int .i64 r.2)]
structure K194 (fu:Nat) (cp:CallP):Prop where
 ap: ∀ {a0:List Int} {a1:Int} {r},shape_Index fu a0 a1=some r->cp 194 [.arr a0.length (lm (ik .i64) a0),.v (.int .i64 a1)]=some (.tuple [.fresh 1 r.1.length (lm (ik .i64) r.1),.v (.int .i64 r.2)])
noncomputable def C194(fu:Nat):Cm prog ((List Int)×Int) ((List Int)×Int):=⟨194,λt=>[.arr t.1.length (lm (ik .i64) t.1),.v (.int .i64 t.2)],λt=>shape_Index fu t.1 t.2,e194,λt b h=>ok194 fu t.1 t.2 b h,Zi⟩
theorem u194{fu:Nat}{cp:CallP}(H:Hit cp (C194 fu).ct):K194 fu cp:=⟨λ {a0 a1 r} h=>(C194 fu).at H (a0,a1) r h⟩
def shape_From.m1:LJ 1 32 Unit (Int×Int):=⟨λr s e=>[(0,er e 0),(14,er e 14),(15,.v (.int .i64 s.1)),(65,er e 65),(66,er e 66),(67,.v (.int .i64 s.2))],λr s h=>[((0,65,0),hr h (0,65,0))]⟩
def shape_From.j1:LJ 1 20 Unit Unit:=⟨λr t e=>[(0,er e 0),(1,er e 1),(2,er e 2)],λr t h=>[]⟩
open shape_From in
theorem w115(cp:CallP)(fu:Nat)(x1:List Int)(x2:List Int)(x3:Int)(H1:K54 fu cp)(H2:K192 fu cp)(H3:K193 fu cp)(H4:K194 fu cp)(H5:K195 fu cp):J (go prog noC cp noI 0 [] d115 fu (fin prog [.tmp 6,.tmp 7] [3,34]) (bodyOf Tryz.f115) (initE 0 [.arr x1.length (lm (ik .i64) x1),.arr x2.length (lm (ik .i64) x2),.v (.int .i64 x3)]) [] []) (shape_From fu x1 x2 x3) e115:=by
 unfold shape_From e115
 have da:=d115_at
 conv=>arg 1;simp only[bodyOf,Tryz.f115]
 have z0:=d115_at
 exact Wk
theorem ok115(fu:Nat)(x1:List Int)(x2:List Int)(x3:Int)(r)(h:shape_From fu x1 x2 x3=some r):PureOK prog 115 [.arr x1.length (lm (ik .i64) x1),.arr x2.length (lm (ik .i64) x2),.v (.int .i64 x3)] (e115 r):=pureT mixed [(C54 fu).ct,(C192 fu).ct,(C193 fu).ct,(C194 fu).ct,(C195 fu).ct] (ids:=[54,192,193,194,195]) rfl (by decide) i115 (C:=noC) (ci:=λcp=>noI) (λcp ok=>noI_ok) (λcp H=>w115 cp fu x1 x2 x3 (u54 H.1) (u192 H.2.1) (u193 H.2.2.1) (u194 H.2.2.2.1) (u195 H.2.2.2.2.1)) h
open Aw (d55)
def d55_at:=by have h:=tabL Aw.d55.eq_1;simp only[AllAt,Nat.zero_add,Nat.reduceAdd]at h;exact h
theorem i55:finfo prog 55 d55=some ⟨bodyOf Tryz.f55,[.tmp 6],[3]⟩:=fA Tryz.func55
def e55:Int->AV:=λr=> .v (.int .i64 r)
structure K115 (fu:Nat) (cp:CallP):Prop where
 ap: ∀ {a0:List Int} {a1:List Int} {a2:Int} {r},shape_From fu a0 a1 a2=some r->cp 115 [.arr a0.length (lm (ik .i64) a0),.arr a1.length (lm (ik .i64) a1),.v (.int .i64 a2)]=some (.tuple [.v (.int .i64 r.1),.v (.int .i64 r.2)])
noncomputable def C115(fu:Nat):Cm prog ((List Int)×(List Int)×Int) (Int×Int):=⟨115,λt=>[.arr t.1.length (lm (ik .i64) t.1),.arr t.2.1.length (lm (ik .i64) t.2.1),.v (.int .i64 t.2.2)],λt=>shape_From fu t.1 t.2.1 t.2.2,e115,λt b h=>ok115 fu t.1 t.2.1 t.2.2 b h,Zi⟩
theorem u115{fu:Nat}{cp:CallP}(H:Hit cp (C115 fu).ct):K115 fu cp:=⟨λ {a0 a1 a2 r} h=>(C115 fu).at H (a0,a1,a2) r h⟩
theorem w55(cp:CallP)(fu:Nat)(x1:T_ewise_work)(x2:Int)(x3:Int)(H1:K115 fu cp):J (go prog noC cp noI 0 [] d55 fu (fin prog [.tmp 6] [3]) (bodyOf Tryz.f55) (initE 0 [.ref (c_T_ewise_work x1) 0,.v (.int .i64 x2),.v (.int .i64 x3)]) [] []) (ewise_work_place fu x1 x2 x3) e55:=by
 unfold ewise_work_place e55
 have da:=d55_at
 conv=>arg 1;simp only[bodyOf,Tryz.f55]
 have z0:=d55_at
 exact Wk
theorem ok55(fu:Nat)(x1:T_ewise_work)(x2:Int)(x3:Int)(r)(h:ewise_work_place fu x1 x2 x3=some r):PureOK prog 55 [.ref (c_T_ewise_work x1) 0,.v (.int .i64 x2),.v (.int .i64 x3)] (e55 r):=pureT mixed [(C115 fu).ct] (ids:=[115]) rfl (by decide) i55 (C:=noC) (ci:=λcp=>noI) (λcp ok=>noI_ok) (λcp H=>w55 cp fu x1 x2 x3 (u115 H.1)) h
open Aw (d26)
def d26_at:=by have h:=tabL Aw.d26.eq_1;simp only[AllAt,Nat.zero_add,Nat.reduceAdd]at h;exact h
theorem i26:finfo prog 26 d26=some ⟨bodyOf Tryz.f26,[.tmp 2],[4]⟩:=fA Tryz.func26
def e26:Bool->AV:=λr=> .v (.bool r)
structure K55 (fu:Nat) (cp:CallP):Prop where
 ap: ∀ {a0:T_ewise_work} {a1:Int} {a2:Int} {r},ewise_work_place fu a0 a1 a2=some r->cp 55 [.ref (c_T_ewise_work a0) 0,.v (.int .i64 a1),.v (.int .i64 a2)]=some (.v (.int .i64 r))
noncomputable def C55(fu:Nat):Cm prog (T_ewise_work×Int×Int) Int:=⟨55,λt=>[.ref (c_T_ewise_work t.1) 0,.v (.int .i64 t.2.1),.v (.int .i64 t.2.2)],λt=>ewise_work_place fu t.1 t.2.1 t.2.2,e55,λt b h=>ok55 fu t.1 t.2.1 t.2.2 b h,Zi⟩
theorem u55{fu:Nat}{cp:CallP}(H:Hit cp (C55 fu).ct):K55 fu cp:=⟨λ {a0 a1 a2 r} h=>(C55 fu).at H (a0,a1,a2) r h⟩
def ewise_work_divides.m1:LJ 1 8 Unit Int:=⟨λr s e=>[(0,er e 0),(29,er e 29),(30,.v (.int .i64 s))],λr s h=>[]⟩
def ewise_work_divides.j1:LJ 1 6 Unit Unit:=⟨λr t e=>[(0,er e 0)],λr t h=>[]⟩
open ewise_work_divides in
theorem w26(cp:CallP)(fu:Nat)(x1:T_ewise_work)(H1:K55 fu cp):J (go prog noC cp noI 0 [] d26 fu (fin prog [.tmp 2] [4]) (bodyOf Tryz.f26) (initE 0 [.ref (c_T_ewise_work x1) 0]) [] []) (ewise_work_divides fu x1) e26:=by
 unfold ewise_work_divides e26
 have da:=d26_at
 conv=>arg 1;simp only[bodyOf,Tryz.f26]
 have z0:=d26_at
 exact Wk
theorem ok26(fu:Nat)(x1:T_ewise_work)(r)(h:ewise_work_divides fu x1=some r):PureOK prog 26 [.ref (c_T_ewise_work x1) 0] (e26 r):=pureT mixed [(C55 fu).ct] (ids:=[55]) rfl (by decide) i26 (C:=noC) (ci:=λcp=>noI) (λcp ok=>noI_ok) (λcp H=>w26 cp fu x1 (u55 H.1)) h
def d299:TD:=[(0,[1,5]),(0,[]),(0,[0,2,6,7,8])]
def d299_at:=by have h:=tabL d299.eq_1;simp only[AllAt,Nat.zero_add,Nat.reduceAdd]at h;exact h
theorem i299:finfo prog 299 d299=some ⟨bodyOf Tryz.f299,[.tmp 5],[23]⟩:=fA Tryz.func299
def e299:Int->AV:=λr=> .v (.int .u32 r)
theorem w299(cp:CallP)(fu:Nat)(x1:Int)(x2:Int)(p2:Int→Option Int)(fv_p2:FuncId)(ca_p2:List AV)(cap_p2:Capt ca_p2)(hp_p2: ∀ (y0:Int) r,p2 y0=some r→cp fv_p2 ((.v (.int .u32 y0))::ca_p2)=some (.v (.int .u32 r))):J (go prog noC cp noI 0 [] d299 fu (fin prog [.tmp 5] [23]) (bodyOf Tryz.f299) (initE 0 [.v (.int .u32 x1),.v (.int .u32 x2),.ref [.fn fv_p2 [] ca_p2] 0]) [] []) (ewise_first_1 fu x1 x2 p2) e299:=by
 unfold ewise_first_1 e299
 have da:=d299_at
 have c4_p2:=λg=>(cap_p2.1 g).1;have c3_p2:=λg=>(cap_p2.1 g).2.1;have b4_p2:=λg=>(cap_p2.1 g).2.2.1;have b3_p2:=λg=>(cap_p2.1 g).2.2.2;have nm_p2:=cap_p2.2
 refine J.bind λx4 h1=> ?_
 have e_h1:=hp_p2 _ _ h1
 try simp only[NN,NT,LN,simprocAttr,DT]at e_h1
 refine J.some ?_
 simp (maxSteps:=20000000) (disch:=first|exact Zd|fail) only[bodyOf,Tryz.f299,ZZ,d299_at,simprocAttr,c4_p2,c3_p2,b4_p2,b3_p2,nm_p2,e_h1,FN]
noncomputable def t299(fu:Nat)(x1:Int)(x2:Int)(p2:Int->Option Int)(fv_p2:FuncId)(ca_p2:List AV):CallP:=orE fv_p2 (mkC (λ(t:Int)=>((.v (.int .u32 t))::ca_p2:List AV)) (λt=>p2 t) (λr=> .v (.int .u32 r))) (noP)
theorem t299_ok(fu:Nat)(x1:Int)(x2:Int)(p2:Int->Option Int)(fv_p2:FuncId)(ca_p2:List AV)(cap_p2:Capt ca_p2)(hp_p2: ∀ (y0:Int) r,p2 y0=some r->PureOK prog fv_p2 ((.v (.int .u32 y0))::ca_p2) (.v (.int .u32 r))):CpOK prog (t299 fu x1 x2 p2 fv_p2 ca_p2):=orE_ok (noP_ok) (mkC_ok (λt b h=>hp_p2 t b h))
theorem ok299(fu:Nat)(x1:Int)(x2:Int)(p2:Int→Option Int)(fv_p2:FuncId)(ca_p2:List AV)(cap_p2:Capt ca_p2)(hp_p2: ∀ (y0:Int) r,p2 y0=some r→PureOK prog fv_p2 ((.v (.int .u32 y0))::ca_p2) (.v (.int .u32 r)))(r)(h:ewise_first_1 fu x1 x2 p2=some r):PureOK prog 299 [.v (.int .u32 x1),.v (.int .u32 x2),.ref [.fn fv_p2 [] ca_p2] 0] (e299 r):=
  pure_J mixed (cp:=t299 fu x1 x2 p2 fv_p2 ca_p2) (t299_ok fu x1 x2 p2 fv_p2 ca_p2 cap_p2 hp_p2) noI_ok i299 (w299 _ fu x1 x2 p2 fv_p2 ca_p2 cap_p2 (λy0 r h=>orE_hit (mkC_at (a:=y0) (by intro a b h;first|(exact rfl)|(simp only[INJ,IJ]at h;first|exact h|(simp_all [Prod.ext_iff]))) h))) h
def d322:TD:=[(0,[2]),(0,[]),(0,[0,3])]
def d322_at:=by have h:=tabL d322.eq_1;simp only[AllAt,Nat.zero_add,Nat.reduceAdd]at h;exact h
theorem i322:finfo prog 322 d322=some ⟨bodyOf Tryz.f322,[.tmp 2],[23]⟩:=fA Tryz.func322
def e322:Int->AV:=λr=> .v (.int .u32 r)
theorem w322(cp:CallP)(fu:Nat)(x1:Int):J (go prog noC cp noI 0 [] d322 fu (fin prog [.tmp 2] [23]) (bodyOf Tryz.f322) (initE 0 [.v (.int .u32 x1)]) [] []) (ewise_curveOf_1 fu x1) e322:=by
 unfold ewise_curveOf_1 e322
 have da:=d322_at
 conv=>arg 1;simp only[bodyOf,Tryz.f322]
 have z0:=d322_at
 exact Wk
theorem ok322(fu:Nat)(x1:Int)(r)(h:ewise_curveOf_1 fu x1=some r):PureOK prog 322 [.v (.int .u32 x1)] (e322 r):=pureT mixed [] (ids:=[]) rfl (by decide) i322 (C:=noC) (ci:=λcp=>noI) (λcp ok=>noI_ok) (λcp H=>w322 cp fu x1) h
def d363:TD:=[(0,[]),(0,[3,4]),(0,[6,7,8,9]),(0,[]),(0,[10,11,12]),(0,[]),(0,[0,13,14,15,16]),(0,[]),(0,[17,18,19,20,21,22]),(0,[]),(0,[24,25]),(0,[]),(0,[26,27,28]),(0,[]),(0,[29,30,31]),(0,[]),(0,[33,34]),(0,[]),(0,[35,36,37]),(0,[]),(0,[5,38])]
def d363_at:=by have h:=tabL d363.eq_1;simp only[AllAt,Nat.zero_add,Nat.reduceAdd]at h;exact h
theorem i363:finfo prog 363 d363=some ⟨bodyOf Tryz.f363,[.cell 2 236],[236]⟩:=fA Tryz.func363
def e363:T_soft_number->AV:=λr=> .agg [.v (.bool r.fneg),.v (.bool r.fnan),.v (.bool r.finf),.v (.int .i64 r.fexp),.v (.int .u64 r.fsig)]
theorem w363(cp:CallP)(fu:Nat)(x1:Int):J (go prog noC cp noI 0 [] d363 fu (fin prog [.cell 2 236] [236]) (bodyOf Tryz.f363) (initE 0 [.v (.int .u32 x1)]) [] []) (soft_open fu x1) e363:=by
 unfold soft_open e363
 have da:=d363_at
 conv=>arg 1;simp only[bodyOf,Tryz.f363]
 have z0:=d363_at
 exact Wk
theorem ok363(fu:Nat)(x1:Int)(r)(h:soft_open fu x1=some r):PureOK prog 363 [.v (.int .u32 x1)] (e363 r):=pureT mixed [] (ids:=[]) rfl (by decide) i363 (C:=noC) (ci:=λcp=>noI) (λcp ok=>noI_ok) (λcp H=>w363 cp fu x1) h
def d364:TD:=[(0,[2]),(0,[]),(0,[0]),(0,[]),(0,[]),(0,[]),(0,[])]
def d364_at:=by have h:=tabL d364.eq_1;simp only[AllAt,Nat.zero_add,Nat.reduceAdd]at h;exact h
theorem i364:finfo prog 364 d364=some ⟨bodyOf Tryz.f364,[.tmp 2],[23]⟩:=fA Tryz.func364
def e364:Int->AV:=λr=> .v (.int .u32 r)
theorem w364(cp:CallP)(fu:Nat)(x1:Bool):J (go prog noC cp noI 0 [] d364 fu (fin prog [.tmp 2] [23]) (bodyOf Tryz.f364) (initE 0 [.v (.bool x1)]) [] []) (soft_sign fu x1) e364:=by
 unfold soft_sign e364
 have da:=d364_at
 conv=>arg 1;simp only[bodyOf,Tryz.f364]
 have z0:=d364_at
 exact Wk
theorem ok364(fu:Nat)(x1:Bool)(r)(h:soft_sign fu x1=some r):PureOK prog 364 [.v (.bool x1)] (e364 r):=pureT mixed [] (ids:=[]) rfl (by decide) i364 (C:=noC) (ci:=λcp=>noI) (λcp ok=>noI_ok) (λcp H=>w364 cp fu x1) h
def d366:TD:=[(0,[2]),(0,[]),(0,[0,3,4,5])]
def d366_at:=by have h:=tabL d366.eq_1;simp only[AllAt,Nat.zero_add,Nat.reduceAdd]at h;exact h
theorem i366:finfo prog 366 d366=some ⟨bodyOf Tryz.f366,[.tmp 2],[23]⟩:=fA Tryz.func366
def e366:Int->AV:=λr=> .v (.int .u32 r)
structure K364 (fu:Nat) (cp:CallP):Prop where
 ap: ∀ {a0:Bool} {r},soft_sign fu a0=some r->cp 364 [.v (.bool a0)]=some (.v (.int .u32 r))
noncomputable def C364(fu:Nat):Cm prog Bool Int:=⟨364,λt=>[.v (.bool t)],λt=>soft_sign fu t,e364,λt b h=>ok364 fu t b h,Zi⟩
theorem u364{fu:Nat}{cp:CallP}(H:Hit cp (C364 fu).ct):K364 fu cp:=⟨λ {a0 r} h=>(C364 fu).at H a0 r h⟩
theorem w366(cp:CallP)(fu:Nat)(x1:Int)(H1:K364 fu cp):J (go prog noC cp noI 0 [] d366 fu (fin prog [.tmp 2] [23]) (bodyOf Tryz.f366) (initE 0 [.v (.int .i64 x1)]) [] []) (soft_nought fu x1) e366:=by
 unfold soft_nought e366
 have da:=d366_at
 conv=>arg 1;simp only[bodyOf,Tryz.f366]
 have z0:=d366_at
 exact Wk
theorem ok366(fu:Nat)(x1:Int)(r)(h:soft_nought fu x1=some r):PureOK prog 366 [.v (.int .i64 x1)] (e366 r):=pureT mixed [(C364 fu).ct] (ids:=[364]) rfl (by decide) i366 (C:=noC) (ci:=λcp=>noI) (λcp ok=>noI_ok) (λcp H=>w366 cp fu x1 (u364 H.1)) h
def d361:TD:=[(0,[]),(0,[]),(0,[3]),(0,[]),(0,[5,6]),(0,[]),(0,[]),(0,[]),(0,[7]),(0,[]),(0,[9,10]),(0,[]),(0,[11,12]),(0,[]),(0,[13]),(0,[]),(0,[15,16]),(0,[]),(0,[17,18]),(0,[]),(0,[0,19,20,21,22,23,24])]
def d361_at:=by have h:=tabL d361.eq_1;simp only[AllAt,Nat.zero_add,Nat.reduceAdd]at h;exact h
theorem i361:finfo prog 361 d361=some ⟨bodyOf Tryz.f361,[.tmp 2],[3]⟩:=fA Tryz.func361
def e361:Int->AV:=λr=> .v (.int .i64 r)
def math_bits_Len64.j2:LJ 2 14 Unit (Int×Int):=⟨λr t e=>[(0,.v (.int .u64 t.1)),(2,.v (.int .i64 t.2))],λr t h=>[]⟩
def math_bits_Len64.j1:LJ 1 8 Unit (Int×Int):=⟨λr t e=>[(0,.v (.int .u64 t.1)),(2,.v (.int .i64 t.2))],λr t h=>[]⟩
open math_bits_Len64 in
theorem w361(cp:CallP)(fu:Nat)(x1:Int):J (go prog noC cp noI 0 [] d361 fu (fin prog [.tmp 2] [3]) (bodyOf Tryz.f361) (initE 0 [.v (.int .u64 x1)]) [] []) (math_bits_Len64 fu x1) e361:=by
 unfold math_bits_Len64 e361
 have da:=d361_at
 conv=>arg 1;simp only[bodyOf,Tryz.f361]
 have z0:=d361_at
 exact Wk
theorem ok361(fu:Nat)(x1:Int)(r)(h:math_bits_Len64 fu x1=some r):PureOK prog 361 [.v (.int .u64 x1)] (e361 r):=pureT mixed [] (ids:=[]) rfl (by decide) i361 (C:=noC) (ci:=λcp=>noI) (λcp ok=>noI_ok) (λcp H=>w361 cp fu x1) h
def d370:TD:=[(0,[4]),(0,[]),(0,[0,1,5,6,7,8,9,10,11,12,13,14,15,16,17])]
def d370_at:=by have h:=tabL d370.eq_1;simp only[AllAt,Nat.zero_add,Nat.reduceAdd]at h;exact h
theorem i370:finfo prog 370 d370=some ⟨bodyOf Tryz.f370,[.tmp 4],[4]⟩:=fA Tryz.func370
def e370:Bool->AV:=λr=> .v (.bool r)
theorem w370(cp:CallP)(fu:Nat)(x1:Int)(x2:Bool):J (go prog noC cp noI 0 [] d370 fu (fin prog [.tmp 4] [4]) (bodyOf Tryz.f370) (initE 0 [.v (.int .i64 x1),.v (.bool x2)]) [] []) (soft_outwards fu x1 x2) e370:=by
 unfold soft_outwards e370
 have da:=d370_at
 conv=>arg 1;simp only[bodyOf,Tryz.f370]
 have z0:=d370_at
 exact Wk
theorem ok370(fu:Nat)(x1:Int)(x2:Bool)(r)(h:soft_outwards fu x1 x2=some r):PureOK prog 370 [.v (.int .i64 x1),.v (.bool x2)] (e370 r):=pureT mixed [] (ids:=[]) rfl (by decide) i370 (C:=noC) (ci:=λcp=>noI) (λcp ok=>noI_ok) (λcp H=>w370 cp fu x1 x2) h
def d368:TD:=[(0,[4]),(0,[]),(0,[0,5,6]),(0,[]),(0,[8,9,10]),(0,[]),(0,[1,11,12])]
def d368_at:=by have h:=tabL d368.eq_1;simp only[AllAt,Nat.zero_add,Nat.reduceAdd]at h;exact h
theorem i368:finfo prog 368 d368=some ⟨bodyOf Tryz.f368,[.tmp 4],[23]⟩:=fA Tryz.func368
def e368:Int->AV:=λr=> .v (.int .u32 r)
structure K370 (fu:Nat) (cp:CallP):Prop where
 ap: ∀ {a0:Int} {a1:Bool} {r},soft_outwards fu a0 a1=some r->cp 370 [.v (.int .i64 a0),.v (.bool a1)]=some (.v (.bool r))
noncomputable def C370(fu:Nat):Cm prog (Int×Bool) Bool:=⟨370,λt=>[.v (.int .i64 t.1),.v (.bool t.2)],λt=>soft_outwards fu t.1 t.2,e370,λt b h=>ok370 fu t.1 t.2 b h,Zi⟩
theorem u370{fu:Nat}{cp:CallP}(H:Hit cp (C370 fu).ct):K370 fu cp:=⟨λ {a0 a1 r} h=>(C370 fu).at H (a0,a1) r h⟩
theorem w368(cp:CallP)(fu:Nat)(x1:Int)(x2:Bool)(H1:K370 fu cp)(H2:K364 fu cp):J (go prog noC cp noI 0 [] d368 fu (fin prog [.tmp 4] [23]) (bodyOf Tryz.f368) (initE 0 [.v (.int .i64 x1),.v (.bool x2)]) [] []) (soft_tiny fu x1 x2) e368:=by
 unfold soft_tiny e368
 have da:=d368_at
 conv=>arg 1;simp only[bodyOf,Tryz.f368]
 have z0:=d368_at
 exact Wk
theorem ok368(fu:Nat)(x1:Int)(x2:Bool)(r)(h:soft_tiny fu x1 x2=some r):PureOK prog 368 [.v (.int .i64 x1),.v (.bool x2)] (e368 r):=pureT mixed [(C370 fu).ct,(C364 fu).ct] (ids:=[370,364]) rfl (by decide) i368 (C:=noC) (ci:=λcp=>noI) (λcp ok=>noI_ok) (λcp H=>w368 cp fu x1 x2 (u370 H.1) (u364 H.2.1)) h
def d369:TD:=[(0,[4]),(0,[]),(0,[0,5,6,7,8,9,10,11,12,13,14,15]),(0,[]),(0,[17,18,19]),(0,[]),(0,[1,20,21,22])]
def d369_at:=by have h:=tabL d369.eq_1;simp only[AllAt,Nat.zero_add,Nat.reduceAdd]at h;exact h
theorem i369:finfo prog 369 d369=some ⟨bodyOf Tryz.f369,[.tmp 4],[23]⟩:=fA Tryz.func369
def e369:Int->AV:=λr=> .v (.int .u32 r)
def soft_huge.j1:LJ 1 6 Unit Unit:=⟨λr t e=>[(1,er e 1)],λr t h=>[]⟩
open soft_huge in
theorem w369(cp:CallP)(fu:Nat)(x1:Int)(x2:Bool)(H1:K364 fu cp):J (go prog noC cp noI 0 [] d369 fu (fin prog [.tmp 4] [23]) (bodyOf Tryz.f369) (initE 0 [.v (.int .i64 x1),.v (.bool x2)]) [] []) (soft_huge fu x1 x2) e369:=by
 unfold soft_huge e369
 have da:=d369_at
 conv=>arg 1;simp only[bodyOf,Tryz.f369]
 have z0:=d369_at
 exact Wk
theorem ok369(fu:Nat)(x1:Int)(x2:Bool)(r)(h:soft_huge fu x1 x2=some r):PureOK prog 369 [.v (.int .i64 x1),.v (.bool x2)] (e369 r):=pureT mixed [(C364 fu).ct] (ids:=[364]) rfl (by decide) i369 (C:=noC) (ci:=λcp=>noI) (λcp ok=>noI_ok) (λcp H=>w369 cp fu x1 x2 (u364 H.1)) h
def d313:TD:=[(0,[10]),(0,[]),(0,[21,22]),(0,[3,4,11]),(0,[24,25,26,27,28,29]),(0,[14,15,16,99,111]),(0,[30,31]),(0,[]),(0,[33,34,35,36,37,38]),(0,[]),(0,[39,40,41]),(0,[]),(0,[43,44]),(0,[]),(0,[45,46,47]),(0,[]),(0,[48,49,50,51,52]),(0,[]),(0,[]),(0,[]),(0,[53]),(0,[]),(0,[54,55,56]),(0,[]),(0,[57,58,59,60,61]),(0,[]),(0,[62,63,64]),(0,[]),(0,[65,66,67,68,69,70,71,72,73,74,75]),(0,[]),(0,[18,76,77,78,79,80,81,82]),(0,[]),(0,[17,83,84,85,86,87]),(0,[]),(0,[89,90]),(0,[]),(0,[91,92,93,94]),(0,[]),(0,[96,97,98]),(0,[]),(0,[]),(0,[]),(0,[]),(0,[]),(0,[100,101,102,103,104,105,106,107]),(0,[]),(0,[109,110]),(0,[]),(0,[112]),(0,[]),(0,[113]),(0,[]),(0,[114,115,116,117,118]),(0,[]),(0,[120,121]),(0,[]),(0,[2,12,122,123,124]),(0,[]),(0,[125]),(0,[]),(0,[127,128]),(0,[]),(0,[129]),(0,[]),(0,[131,132,133]),(0,[]),(0,[13,19,134,135,136,137,138,139]),(0,[]),(0,[140]),(0,[]),(0,[142,143,144]),(0,[]),(0,[0,1,20,145,146,147,148,149]),(0,[]),(0,[]),(0,[]),(0,[]),(0,[]),(0,[]),(0,[]),(0,[]),(0,[]),(0,[]),(0,[]),(0,[]),(0,[]),(0,[]),(0,[]),(0,[]),(0,[]),(0,[]),(0,[]),(0,[]),(0,[]),(0,[]),(0,[]),(0,[]),(0,[]),(0,[]),(0,[]),(0,[]),(0,[]),(0,[]),(0,[]),(0,[]),(0,[]),(0,[]),(0,[]),(0,[]),(0,[]),(0,[]),(0,[]),(0,[]),(0,[]),(0,[]),(0,[]),(0,[]),(0,[]),(0,[]),(0,[]),(0,[]),(0,[]),(0,[]),(0,[]),(0,[]),(0,[]),(0,[]),(0,[]),(0,[]),(0,[]),(0,[]),(0,[]),(0,[]),(0,[]),(0,[]),(0,[]),(0,[]),(0,[]),(0,[]),(0,[]),(0,[]),(0,[]),(0,[]),(0,[]),(0,[]),(0,[]),(0,[]),(0,[]),(0,[]),(0,[]),(0,[]),(0,[]),(0,[]),(0,[]),(0,[]),(0,[]),(0,[]),(0,[]),(0,[]),(0,[]),(0,[]),(0,[]),(0,[]),(0,[]),(0,[]),(0,[]),(0,[]),(0,[]),(0,[]),(0,[]),(0,[]),(0,[]),(0,[]),(0,[]),(0,[]),(0,[]),(0,[]),(0,[]),(0,[]),(0,[]),(0,[]),(0,[]),(0,[]),(0,[]),(0,[]),(0,[]),(0,[]),(0,[]),(0,[]),(0,[]),(0,[]),(0,[]),(0,[]),(0,[]),(0,[]),(0,[]),(0,[]),(0,[]),(0,[]),(0,[]),(0,[]),(0,[]),(0,[]),(0,[]),(0,[]),(0,[]),(0,[]),(0,[]),(0,[]),(0,[]),(0,[]),(0,[]),(0,[]),(0,[]),(0,[]),(0,[]),(0,[]),(0,[]),(0,[]),(0,[]),(0,[]),(0,[]),(0,[]),(1,[])]
def d313_at:=by have h:=tabL d313.eq_1;simp only[AllAt,Nat.zero_add,Nat.reduceAdd]at h;exact h
theorem i313:finfo prog 313 d313=some ⟨bodyOf Tryz.f313,[.tmp 10],[23]⟩:=fA Tryz.func313
def e313:Int->AV:=λr=> .v (.int .u32 r)
structure K361 (fu:Nat) (cp:CallP):Prop where
 ap: ∀ {a0:Int} {r},math_bits_Len64 fu a0=some r->cp 361 [.v (.int .u64 a0)]=some (.v (.int .i64 r))
noncomputable def C361(fu:Nat):Cm prog Int Int:=⟨361,λt=>[.v (.int .u64 t)],λt=>math_bits_Len64 fu t,e361,λt b h=>ok361 fu t b h,Zi⟩
theorem u361{fu:Nat}{cp:CallP}(H:Hit cp (C361 fu).ct):K361 fu cp:=⟨λ {a0 r} h=>(C361 fu).at H a0 r h⟩
structure K368 (fu:Nat) (cp:CallP):Prop where
 ap: ∀ {a0:Int} {a1:Bool} {r},soft_tiny fu a0 a1=some r->cp 368 [.v (.int .i64 a0),.v (.bool a1)]=some (.v (.int .u32 r))
noncomputable def C368(fu:Nat):Cm prog (Int×Bool) Int:=⟨368,λt=>[.v (.int .i64 t.1),.v (.bool t.2)],λt=>soft_tiny fu t.1 t.2,e368,λt b h=>ok368 fu t.1 t.2 b h,Zi⟩
theorem u368{fu:Nat}{cp:CallP}(H:Hit cp (C368 fu).ct):K368 fu cp:=⟨λ {a0 a1 r} h=>(C368 fu).at H (a0,a1) r h⟩
structure K369 (fu:Nat) (cp:CallP):Prop where
 ap: ∀ {a0:Int} {a1:Bool} {r},soft_huge fu a0 a1=some r->cp 369 [.v (.int .i64 a0),.v (.bool a1)]=some (.v (.int .u32 r))
noncomputable def C369(fu:Nat):Cm prog (Int×Bool) Int:=⟨369,λt=>[.v (.int .i64 t.1),.v (.bool t.2)],λt=>soft_huge fu t.1 t.2,e369,λt b h=>ok369 fu t.1 t.2 b h,Zi⟩
theorem u369{fu:Nat}{cp:CallP}(H:Hit cp (C369 fu).ct):K369 fu cp:=⟨λ {a0 a1 r} h=>(C369 fu).at H (a0,a1) r h⟩
def soft_Round.j3:LJ 3 56 Unit Int:=⟨λr t e=>[(0,er e 0),(1,er e 1),(2,er e 2),(12,er e 12),(13,.v (.int .u64 t))],λr t h=>[]⟩
def soft_Round.j4:LJ 4 30 Unit Bool:=⟨λr t e=>[(0,er e 0),(1,er e 1),(2,er e 2),(3,er e 3),(4,er e 4),(11,er e 11),(12,er e 12),(13,er e 13),(14,.v (.bool t)),(15,er e 15),(16,er e 16),(17,er e 17),(18,er e 18)],λr t h=>[]⟩
def soft_Round.j2:LJ 2 42 Unit (Int×Bool×Bool×Bool):=⟨λr t e=>[(0,er e 0),(1,er e 1),(2,er e 2),(12,er e 12),(13,.v (.int .u64 t.1)),(14,.v (.bool t.2.1)),(15,.v (.bool t.2.2.1)),(16,.v (.bool t.2.2.2))],λr t h=>[]⟩
def soft_Round.j1:LJ 1 16 Unit Unit:=⟨λr t e=>[(0,er e 0),(1,er e 1),(2,er e 2),(3,er e 3),(4,er e 4),(11,er e 11)],λr t h=>[]⟩
open soft_Round in
theorem w313(cp:CallP)(fu:Nat)(x1:Int)(x2:Bool)(x3:Int)(x4:Int)(x5:Bool)(H1:K361 fu cp)(H2:K368 fu cp)(H3:K364 fu cp)(H4:K369 fu cp):J (go prog noC cp noI 0 [] d313 fu (fin prog [.tmp 10] [23]) (bodyOf Tryz.f313) (initE 0 [.v (.int .i64 x1),.v (.bool x2),.v (.int .i64 x3),.v (.int .u64 x4),.v (.bool x5)]) [] []) (soft_Round fu x1 x2 x3 x4 x5) e313:=by
 unfold soft_Round e313
 have da:=d313_at
 conv=>arg 1;simp only[bodyOf,Tryz.f313]
 have z0:=d313_at
 exact Wk
theorem ok313(fu:Nat)(x1:Int)(x2:Bool)(x3:Int)(x4:Int)(x5:Bool)(r)(h:soft_Round fu x1 x2 x3 x4 x5=some r):PureOK prog 313 [.v (.int .i64 x1),.v (.bool x2),.v (.int .i64 x3),.v (.int .u64 x4),.v (.bool x5)] (e313 r):=pureT mixed [(C361 fu).ct,(C368 fu).ct,(C364 fu).ct,(C369 fu).ct] (ids:=[361,368,364,369]) rfl (by decide) i313 (C:=noC) (ci:=λcp=>noI) (λcp ok=>noI_ok) (λcp H=>w313 cp fu x1 x2 x3 x4 x5 (u361 H.1) (u368 H.2.1) (u364 H.2.2.1) (u369 H.2.2.2.1)) h
def d308:TD:=[(0,[6]),(0,[1,2]),(0,[14,15,16,17]),(0,[7,13]),(0,[19,20,21,22,23,24,25,26,27,28,29,30,31,32,33,34,35,36,37,38,39]),(0,[]),(0,[]),(0,[]),(0,[41,42]),(0,[]),(0,[43]),(0,[]),(0,[45,46]),(0,[]),(0,[47]),(0,[]),(0,[49,50,51,52,53,54,55,56]),(0,[]),(0,[57,58]),(0,[]),(0,[60]),(0,[]),(0,[61,62]),(0,[]),(0,[63,64,65,66]),(0,[]),(0,[68,69]),(0,[]),(0,[70,71,72,73,74]),(0,[]),(10,[75,76,77,78,79,80]),(0,[]),(0,[81]),(0,[]),(0,[83,84,85]),(0,[]),(0,[86,87]),(0,[]),(0,[88,89,90]),(0,[]),(0,[91,92,93,94,95]),(0,[]),(8,[96,97,98,99,100,101,102]),(0,[]),(0,[9,104,105,106,107,108]),(0,[]),(0,[109,110,111,112,113,114,115,116,117]),(0,[]),(0,[119]),(0,[]),(0,[120,121,122,123,124,125,126,127,128]),(0,[]),(0,[130,131,132]),(0,[]),(0,[133,134]),(0,[]),(0,[136,137,138]),(0,[]),(0,[139,140,141,142,143,144,145,146]),(0,[]),(0,[0,8,10,11,12,147,148,149,150,151,152,153,154])]
def d308_at:=by have h:=tabL d308.eq_1;simp only[AllAt,Nat.zero_add,Nat.reduceAdd]at h;exact h
theorem i308:finfo prog 308 d308=some ⟨bodyOf Tryz.f308,[.tmp 6],[23]⟩:=fA Tryz.func308
def e308:Int->AV:=λr=> .v (.int .u32 r)
structure K363 (fu:Nat) (cp:CallP):Prop where
 ap: ∀ {a0:Int} {r},soft_open fu a0=some r->cp 363 [.v (.int .u32 a0)]=some (.agg [.v (.bool r.fneg),.v (.bool r.fnan),.v (.bool r.finf),.v (.int .i64 r.fexp),.v (.int .u64 r.fsig)])
noncomputable def C363(fu:Nat):Cm prog Int T_soft_number:=⟨363,λt=>[.v (.int .u32 t)],λt=>soft_open fu t,e363,λt b h=>ok363 fu t b h,Zi⟩
theorem u363{fu:Nat}{cp:CallP}(H:Hit cp (C363 fu).ct):K363 fu cp:=⟨λ {a0 r} h=>(C363 fu).at H a0 r h⟩
structure K366 (fu:Nat) (cp:CallP):Prop where
 ap: ∀ {a0:Int} {r},soft_nought fu a0=some r->cp 366 [.v (.int .i64 a0)]=some (.v (.int .u32 r))
noncomputable def C366(fu:Nat):Cm prog Int Int:=⟨366,λt=>[.v (.int .i64 t)],λt=>soft_nought fu t,e366,λt b h=>ok366 fu t b h,Zi⟩
theorem u366{fu:Nat}{cp:CallP}(H:Hit cp (C366 fu).ct):K366 fu cp:=⟨λ {a0 r} h=>(C366 fu).at H a0 r h⟩
structure K313 (fu:Nat) (cp:CallP):Prop where
 ap: ∀ {a0:Int} {a1:Bool} {a2:Int} {a3:Int} {a4:Bool} {r},soft_Round fu a0 a1 a2 a3 a4=some r->cp 313 [.v (.int .i64 a0),.v (.bool a1),.v (.int .i64 a2),.v (.int .u64 a3),.v (.bool a4)]=some (.v (.int .u32 r))
noncomputable def C313(fu:Nat):Cm prog (Int×Bool×Int×Int×Bool) Int:=⟨313,λt=>[.v (.int .i64 t.1),.v (.bool t.2.1),.v (.int .i64 t.2.2.1),.v (.int .u64 t.2.2.2.1),.v (.bool t.2.2.2.2)],λt=>soft_Round fu t.1 t.2.1 t.2.2.1 t.2.2.2.1 t.2.2.2.2,e313,λt b h=>ok313 fu t.1 t.2.1 t.2.2.1 t.2.2.2.1 t.2.2.2.2 b h,Zi⟩
theorem u313{fu:Nat}{cp:CallP}(H:Hit cp (C313 fu).ct):K313 fu cp:=⟨λ {a0 a1 a2 a3 a4 r} h=>(C313 fu).at H (a0,a1,a2,a3,a4) r h⟩
def soft_AddBy.j3:LJ 3 3 Unit (Int×Int×Int×Bool):=⟨λr t e=>[(0,er e 0),(7,er e 7),(8,er e 8),(9,er e 9),(10,.v (.int .i64 t.1)),(11,.v (.int .u64 t.2.1)),(12,.v (.int .u64 t.2.2.1)),(13,.v (.bool t.2.2.2))],λr t h=>[((0,7,0),hr h (0,7,0)),((0,8,0),hr h (0,8,0))]⟩
def soft_AddBy.j2:LJ 2 28 Unit (Bool×Int×Int×Bool×Int×Int):=⟨λr t e=>[(0,er e 0),(7,er e 7),(8,er e 8)],λr t h=>[((0,7,0),bs (bs (bs (hr h (0,7,0)) 0 (.v (.bool t.1))) 3 (.v (.int .i64 t.2.1))) 4 (.v (.int .u64 t.2.2.1))),((0,8,0),bs (bs (bs (hr h (0,8,0)) 0 (.v (.bool t.2.2.2.1))) 3 (.v (.int .i64 t.2.2.2.2.1))) 4 (.v (.int .u64 t.2.2.2.2.2)))]⟩
def soft_AddBy.j1:LJ 1 24 Unit Unit:=⟨λr t e=>[(0,er e 0),(7,er e 7),(8,er e 8)],λr t h=>[((0,7,0),bs (bs (hr h (0,7,0)) 1 (.v (.bool false))) 2 (.v (.bool false))),((0,8,0),bs (bs (hr h (0,8,0)) 1 (.v (.bool false))) 2 (.v (.bool false)))]⟩
open soft_AddBy in
theorem w308(cp:CallP)(fu:Nat)(x1:Int)(x2:Int)(x3:Int)(H1:K363 fu cp)(H2:K366 fu cp)(H3:K313 fu cp):J (go prog noC cp noI 0 [] d308 fu (fin prog [.tmp 6] [23]) (bodyOf Tryz.f308) (initE 0 [.v (.int .i64 x1),.v (.int .u32 x2),.v (.int .u32 x3)]) [] []) (soft_AddBy fu x1 x2 x3) e308:=by
 unfold soft_AddBy e308
 have da:=d308_at
 conv=>arg 1;simp only[bodyOf,Tryz.f308]
 have z0:=d308_at
 exact Wk
theorem ok308(fu:Nat)(x1:Int)(x2:Int)(x3:Int)(r)(h:soft_AddBy fu x1 x2 x3=some r):PureOK prog 308 [.v (.int .i64 x1),.v (.int .u32 x2),.v (.int .u32 x3)] (e308 r):=pureT mixed [(C363 fu).ct,(C366 fu).ct,(C313 fu).ct] (ids:=[363,366,313]) rfl (by decide) i308 (C:=noC) (ci:=λcp=>noI) (λcp ok=>noI_ok) (λcp H=>w308 cp fu x1 x2 x3 (u363 H.1) (u366 H.2.1) (u313 H.2.2.1)) h
def d216:TD:=[(0,[4]),(0,[]),(0,[0,1,5,6,7])]
def d216_at:=by have h:=tabL d216.eq_1;simp only[AllAt,Nat.zero_add,Nat.reduceAdd]at h;exact h
theorem i216:finfo prog 216 d216=some ⟨bodyOf Tryz.f216,[.tmp 4],[23]⟩:=fA Tryz.func216
def e216:Int->AV:=λr=> .v (.int .u32 r)
structure K308 (fu:Nat) (cp:CallP):Prop where
 ap: ∀ {a0:Int} {a1:Int} {a2:Int} {r},soft_AddBy fu a0 a1 a2=some r->cp 308 [.v (.int .i64 a0),.v (.int .u32 a1),.v (.int .u32 a2)]=some (.v (.int .u32 r))
noncomputable def C308(fu:Nat):Cm prog (Int×Int×Int) Int:=⟨308,λt=>[.v (.int .i64 t.1),.v (.int .u32 t.2.1),.v (.int .u32 t.2.2)],λt=>soft_AddBy fu t.1 t.2.1 t.2.2,e308,λt b h=>ok308 fu t.1 t.2.1 t.2.2 b h,Zi⟩
theorem u308{fu:Nat}{cp:CallP}(H:Hit cp (C308 fu).ct):K308 fu cp:=⟨λ {a0 a1 a2 r} h=>(C308 fu).at H (a0,a1,a2) r h⟩
theorem w216(cp:CallP)(fu:Nat)(x1:Int)(x2:Int)(H1:K308 fu cp):J (go prog noC cp noI 0 [] d216 fu (fin prog [.tmp 4] [23]) (bodyOf Tryz.f216) (initE 0 [.v (.int .u32 x1),.v (.int .u32 x2)]) [] []) (soft_Add fu x1 x2) e216:=by
 unfold soft_Add e216
 have da:=d216_at
 conv=>arg 1;simp only[bodyOf,Tryz.f216]
 have z0:=d216_at
 exact Wk
theorem ok216(fu:Nat)(x1:Int)(x2:Int)(r)(h:soft_Add fu x1 x2=some r):PureOK prog 216 [.v (.int .u32 x1),.v (.int .u32 x2)] (e216 r):=pureT mixed [(C308 fu).ct] (ids:=[308]) rfl (by decide) i216 (C:=noC) (ci:=λcp=>noI) (λcp ok=>noI_ok) (λcp H=>w216 cp fu x1 x2 (u308 H.1)) h
def d197:TD:=[(0,[2]),(0,[]),(0,[0,3,4])]
def d197_at:=by have h:=tabL d197.eq_1;simp only[AllAt,Nat.zero_add,Nat.reduceAdd]at h;exact h
theorem i197:finfo prog 197 d197=some ⟨bodyOf Tryz.f197,[.tmp 2],[23]⟩:=fA Tryz.func197
def e197:Int->AV:=λr=> .v (.int .u32 r)
theorem w197(cp:CallP)(fu:Nat)(x1:Int):J (go prog noC cp noI 0 [] d197 fu (fin prog [.tmp 2] [23]) (bodyOf Tryz.f197) (initE 0 [.v (.int .u32 x1)]) [] []) (soft_Neg fu x1) e197:=by
 unfold soft_Neg e197
 have da:=d197_at
 conv=>arg 1;simp only[bodyOf,Tryz.f197]
 have z0:=d197_at
 exact Wk
theorem ok197(fu:Nat)(x1:Int)(r)(h:soft_Neg fu x1=some r):PureOK prog 197 [.v (.int .u32 x1)] (e197 r):=pureT mixed [] (ids:=[]) rfl (by decide) i197 (C:=noC) (ci:=λcp=>noI) (λcp ok=>noI_ok) (λcp H=>w197 cp fu x1) h
end Go.Av
