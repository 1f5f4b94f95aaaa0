/- The walks of the plain functions. Made by a program of mine. Conditions: none. -/
import Derived.Test.YtnpnomlnajgbcaaGreatQ8S
import Derived.Test.YtnpnomlnajgbcaaGreatQ8A
import Derived.Test.YtnpnomlnajgbcaaGreatProg
set_option linter.unusedVariables false
set_option linter.unusedSimpArgs false
set_option linter.defProp false
set_option maxRecDepth 20000
open Go Go.Proofs
namespace Go.Av
theorem mixed:Tryz.prog.follows .mixedOrders=true:=by kernel_rfl
def bodyOf(f:Func):Code:=f.body.getD .skip
theorem tv2:tview Tryz.prog 2=some (.int .i64):=by kernel_rfl
theorem ts2:tsize Tryz.prog 2=1:=by kernel_rfl
def pt2:= @ptW _ _ _ tv2 rfl
def st2:= @stW _ _ ts2
theorem tv3:tview Tryz.prog 3=some (.int .i64):=by kernel_rfl
theorem ts3:tsize Tryz.prog 3=1:=by kernel_rfl
def pt3:= @ptW _ _ _ tv3 rfl
def st3:= @stW _ _ ts3
theorem tv4:tview Tryz.prog 4=some (.bool):=by kernel_rfl
theorem ts4:tsize Tryz.prog 4=1:=by kernel_rfl
def pt4:= @ptW _ _ _ tv4 rfl
def sb4:= @sbW _ _ ts4
theorem tv5:tview Tryz.prog 5=some (.int .u8):=by kernel_rfl
theorem ts5:tsize Tryz.prog 5=1:=by kernel_rfl
def pt5:= @ptW _ _ _ tv5 rfl
def st5:= @stW _ _ ts5
theorem tv9:tview Tryz.prog 9=some (.str):=by kernel_rfl
theorem ts9:tsize Tryz.prog 9=1:=by kernel_rfl
def pt9:= @ptW _ _ _ tv9 rfl
theorem le9: ∀ {s:ByteArray},abuiltin Tryz.prog .len #[9] [.v (.string s)]=some (.v (.int .i64 s.size)):=len_str tv9
theorem ix9: ∀ {s:ByteArray} {i:Int},aindex Tryz.prog 9 (.v (.string s)) i=aixS s i:=ix_str tv9
theorem tv22:tview Tryz.prog 22=some (.slice 3 1 8):=by kernel_rfl
theorem ts22:tsize Tryz.prog 22=1:=by kernel_rfl
def pt22:= @ptW _ _ _ tv22 rfl
def ia22:= @iaW _ _ _ _ _ tv22
def io22:= @ioW _ _ _ _ _ tv22
def le22:= @leW _ _ _ _ _ tv22
theorem tz3:tzero Tryz.prog 3=some [.v (.int .i64 0)]:=by kernel_rfl
theorem mk22: ∀ {a b:Int} {k k':IntKind},0<=a->a<=b->b<=140737488355328->b*8<=140737488355328->mkX Tryz.prog 22 (.v (.int k a)) (.v (.int k' b))=some (.fresh 1 a.toNat (lm (ik .i64) (List.replicate a.toNat 0))):=mk_ik tv22 tz3
def ap22:= @apW _ _ _ _ _ _ tv22 tz3 rfl (by decide)
def bs22:= @bsW _ _ _ _ _ _ tv22 tz3 rfl (by decide)
def sa22:= @saW _ _ ts22
def so22:= @soW _ _ ts22
theorem tv23:tview Tryz.prog 23=some (.slice 33 1 4):=by kernel_rfl
theorem ts23:tsize Tryz.prog 23=1:=by kernel_rfl
def pt23:= @ptW _ _ _ tv23 rfl
def ia23:= @iaW _ _ _ _ _ tv23
def io23:= @ioW _ _ _ _ _ tv23
def le23:= @leW _ _ _ _ _ tv23
theorem tz33:tzero Tryz.prog 33=some [.v (.int .u32 0)]:=by kernel_rfl
theorem mk23: ∀ {a b:Int} {k k':IntKind},0<=a->a<=b->b<=140737488355328->b*4<=140737488355328->mkX Tryz.prog 23 (.v (.int k a)) (.v (.int k' b))=some (.fresh 1 a.toNat (lm (ik .u32) (List.replicate a.toNat 0))):=mk_ik tv23 tz33
def ap23:= @apW _ _ _ _ _ _ tv23 tz33 rfl (by decide)
def bs23:= @bsW _ _ _ _ _ _ tv23 tz33 rfl (by decide)
def sa23:= @saW _ _ ts23
def so23:= @soW _ _ ts23
theorem tv24:tview Tryz.prog 24=some (.slice 2 1 8):=by kernel_rfl
theorem ts24:tsize Tryz.prog 24=1:=by kernel_rfl
def pt24:= @ptW _ _ _ tv24 rfl
def ia24:= @iaW _ _ _ _ _ tv24
def io24:= @ioW _ _ _ _ _ tv24
def le24:= @leW _ _ _ _ _ tv24
theorem tz2:tzero Tryz.prog 2=some [.v (.int .i64 0)]:=by kernel_rfl
theorem mk24: ∀ {a b:Int} {k k':IntKind},0<=a->a<=b->b<=140737488355328->b*8<=140737488355328->mkX Tryz.prog 24 (.v (.int k a)) (.v (.int k' b))=some (.fresh 1 a.toNat (lm (ik .i64) (List.replicate a.toNat 0))):=mk_ik tv24 tz2
def ap24:= @apW _ _ _ _ _ _ tv24 tz2 rfl (by decide)
def bs24:= @bsW _ _ _ _ _ _ tv24 tz2 rfl (by decide)
def sa24:= @saW _ _ ts24
def so24:= @soW _ _ ts24
theorem tv25:tview Tryz.prog 25=some (.slice 4 1 1):=by kernel_rfl
theorem ts25:tsize Tryz.prog 25=1:=by kernel_rfl
def pt25:= @ptW _ _ _ tv25 rfl
def ia25:= @iaW _ _ _ _ _ tv25
def io25:= @ioW _ _ _ _ _ tv25
def le25:= @leW _ _ _ _ _ tv25
theorem tz4:tzero Tryz.prog 4=some [.v (.bool false)]:=by kernel_rfl
theorem mk25: ∀ {a b:Int} {k k':IntKind},0<=a->a<=b->b<=140737488355328->b*1<=140737488355328->mkX Tryz.prog 25 (.v (.int k a)) (.v (.int k' b))=some (.fresh 1 a.toNat (lm bk (List.replicate a.toNat false))):=mk_bk tv25 tz4
def ap25:= @apW _ _ _ _ _ _ tv25 tz4 rfl (by decide)
def bs25:= @bsW _ _ _ _ _ _ tv25 tz4 rfl (by decide)
def sa25:= @saW _ _ ts25
def so25:= @soW _ _ ts25
theorem tv27:tview Tryz.prog 27=some (.struct):=by kernel_rfl
theorem ts27:tsize Tryz.prog 27=5:=by kernel_rfl
theorem pt27: ∀ {xs:List AV} {off:Nat},part Tryz.prog xs 27 off=if off+5<=xs.length then some (.agg ((xs.drop off).take 5))else none:=part_struct tv27 ts27
theorem sg27: ∀ {h:Heap} {id:Id} {off:Nat} {ys:List AV},ys.length=5->stX Tryz.prog 27 h (.ptr id off 0) (.agg ys)=(h.get id).bind (stH Tryz.prog 27 h id off ys):=stX_aggH ts27 (by decide)
theorem tv29:tview Tryz.prog 29=some (.slice 27 5 104):=by kernel_rfl
theorem ts29:tsize Tryz.prog 29=1:=by kernel_rfl
def pt29:= @ptW _ _ _ tv29 rfl
def ia29:= @iaW _ _ _ _ _ tv29
def io29:= @ioW _ _ _ _ _ tv29
def le29:= @leW _ _ _ _ _ tv29
theorem tz27:tzero Tryz.prog 27=some [.v (.int .i64 0),.v (.slice none 0 0),.v (.slice none 0 0),.v (.slice none 0 0),.v (.slice none 0 0)]:=by kernel_rfl
def ap29:= @apW _ _ _ _ _ _ tv29 tz27 rfl (by decide)
theorem af29: ∀ {lvl d m:Nat} {h:Heap} {id:Id} {n by_:Nat} {l b:List T_Tensor},m=b.length->n+m<=140737488355328->(n+m)*by_<=140737488355328->appI lvl d 5 by_ h m (fm c_T_Tensor b) id n n (.sl true true 5 n (fm c_T_Tensor l))=some (.own id 0 (n+m) (n+m),h.set id (.sl true true 5 (n+m) (fm c_T_Tensor (l++b)))):=λh1 h2 h3=>appI_fm c_T_Tensor_len h1 h2 h3 (one_fm c_T_Tensor_one)
def bs29:= @bsW _ _ _ _ _ _ tv29 tz27 rfl (by decide)
def sa29:= @saW _ _ ts29
def so29:= @soW _ _ ts29
theorem tv30:tview Tryz.prog 30=some (.int .i64):=by kernel_rfl
theorem ts30:tsize Tryz.prog 30=1:=by kernel_rfl
def pt30:= @ptW _ _ _ tv30 rfl
def st30:= @stW _ _ ts30
theorem tv33:tview Tryz.prog 33=some (.int .u32):=by kernel_rfl
theorem ts33:tsize Tryz.prog 33=1:=by kernel_rfl
def pt33:= @ptW _ _ _ tv33 rfl
def st33:= @stW _ _ ts33
theorem tv35:tview Tryz.prog 35=some (.struct):=by kernel_rfl
theorem ts35:tsize Tryz.prog 35=36:=by kernel_rfl
theorem pt35: ∀ {xs:List AV} {off:Nat},part Tryz.prog xs 35 off=if off+36<=xs.length then some (.agg ((xs.drop off).take 36))else none:=part_struct tv35 ts35
theorem sg35: ∀ {h:Heap} {id:Id} {off:Nat} {ys:List AV},ys.length=36->stX Tryz.prog 35 h (.ptr id off 0) (.agg ys)=(h.get id).bind (stH Tryz.prog 35 h id off ys):=stX_aggH ts35 (by decide)
theorem tv50:tview Tryz.prog 50=some (.other):=by kernel_rfl
theorem ts50:tsize Tryz.prog 50=1:=by kernel_rfl
def pt50:= @ptW _ _ _ tv50 rfl
theorem tv52:tview Tryz.prog 52=some (.struct):=by kernel_rfl
theorem ts52:tsize Tryz.prog 52=44:=by kernel_rfl
theorem pt52: ∀ {xs:List AV} {off:Nat},part Tryz.prog xs 52 off=if off+44<=xs.length then some (.agg ((xs.drop off).take 44))else none:=part_struct tv52 ts52
theorem tv53:tview Tryz.prog 53=some (.slice 62 8 144):=by kernel_rfl
theorem ts53:tsize Tryz.prog 53=1:=by kernel_rfl
def pt53:= @ptW _ _ _ tv53 rfl
def ia53:= @iaW _ _ _ _ _ tv53
def io53:= @ioW _ _ _ _ _ tv53
def le53:= @leW _ _ _ _ _ tv53
theorem tz62:tzero Tryz.prog 62=some [.v (.int .i64 0),.v (.slice none 0 0),.v (.bool false),.v (.int .i64 0),.v (.slice none 0 0),.v (.slice none 0 0),.v (.slice none 0 0),.v (.slice none 0 0)]:=by kernel_rfl
def ap53:= @apW _ _ _ _ _ _ tv53 tz62 rfl (by decide)
theorem af53: ∀ {lvl d m:Nat} {h:Heap} {id:Id} {n by_:Nat} {l b:List T_Val},m=b.length->n+m<=140737488355328->(n+m)*by_<=140737488355328->appI lvl d 8 by_ h m (fm c_T_Val b) id n n (.sl true true 8 n (fm c_T_Val l))=some (.own id 0 (n+m) (n+m),h.set id (.sl true true 8 (n+m) (fm c_T_Val (l++b)))):=λh1 h2 h3=>appI_fm c_T_Val_len h1 h2 h3 (one_fm c_T_Val_one)
def bs53:= @bsW _ _ _ _ _ _ tv53 tz62 rfl (by decide)
def sa53:= @saW _ _ ts53
def so53:= @soW _ _ ts53
theorem tv62:tview Tryz.prog 62=some (.struct):=by kernel_rfl
theorem ts62:tsize Tryz.prog 62=8:=by kernel_rfl
theorem pt62: ∀ {xs:List AV} {off:Nat},part Tryz.prog xs 62 off=if off+8<=xs.length then some (.agg ((xs.drop off).take 8))else none:=part_struct tv62 ts62
theorem sg62: ∀ {h:Heap} {id:Id} {off:Nat} {ys:List AV},ys.length=8->stX Tryz.prog 62 h (.ptr id off 0) (.agg ys)=(h.get id).bind (stH Tryz.prog 62 h id off ys):=stX_aggH ts62 (by decide)
theorem tv67:tview Tryz.prog 67=some (.struct):=by kernel_rfl
theorem ts67:tsize Tryz.prog 67=39:=by kernel_rfl
theorem pt67: ∀ {xs:List AV} {off:Nat},part Tryz.prog xs 67 off=if off+39<=xs.length then some (.agg ((xs.drop off).take 39))else none:=part_struct tv67 ts67
theorem sg67: ∀ {h:Heap} {id:Id} {off:Nat} {ys:List AV},ys.length=39->stX Tryz.prog 67 h (.ptr id off 0) (.agg ys)=(h.get id).bind (stH Tryz.prog 67 h id off ys):=stX_aggH ts67 (by decide)
theorem tv69:tview Tryz.prog 69=some (.slice 22 1 24):=by kernel_rfl
theorem ts69:tsize Tryz.prog 69=1:=by kernel_rfl
def pt69:= @ptW _ _ _ tv69 rfl
def ia69:= @iaW _ _ _ _ _ tv69
def io69:= @ioW _ _ _ _ _ tv69
def le69:= @leW _ _ _ _ _ tv69
theorem tz22:tzero Tryz.prog 22=some [.v (.slice none 0 0)]:=by kernel_rfl
def bs69:= @bsW _ _ _ _ _ _ tv69 tz22 rfl (by decide)
def sa69:= @saW _ _ ts69
def so69:= @soW _ _ ts69
theorem fo27_0:fieldOf Tryz.prog 27 0=some (0,3):=by kernel_rfl
def fp27_0:= @fpW _ _ _ _ _ _ fo27_0 ts3 (by decide)
def fr27_0:= @frW _ _ _ _ _ _ fo27_0 ts3 (by decide)
theorem fo27_1:fieldOf Tryz.prog 27 1=some (1,22):=by kernel_rfl
def fp27_1:= @fpW _ _ _ _ _ _ fo27_1 ts22 (by decide)
def fr27_1:= @frW _ _ _ _ _ _ fo27_1 ts22 (by decide)
theorem fo27_2:fieldOf Tryz.prog 27 2=some (2,23):=by kernel_rfl
def fp27_2:= @fpW _ _ _ _ _ _ fo27_2 ts23 (by decide)
def fr27_2:= @frW _ _ _ _ _ _ fo27_2 ts23 (by decide)
theorem fo27_3:fieldOf Tryz.prog 27 3=some (3,24):=by kernel_rfl
def fp27_3:= @fpW _ _ _ _ _ _ fo27_3 ts24 (by decide)
def fr27_3:= @frW _ _ _ _ _ _ fo27_3 ts24 (by decide)
theorem fo27_4:fieldOf Tryz.prog 27 4=some (4,25):=by kernel_rfl
def fp27_4:= @fpW _ _ _ _ _ _ fo27_4 ts25 (by decide)
def fr27_4:= @frW _ _ _ _ _ _ fo27_4 ts25 (by decide)
theorem fo35_0:fieldOf Tryz.prog 35 0=some (0,3):=by kernel_rfl
def fp35_0:= @fpW _ _ _ _ _ _ fo35_0 ts3 (by decide)
def fr35_0:= @frW _ _ _ _ _ _ fo35_0 ts3 (by decide)
theorem fo35_16:fieldOf Tryz.prog 35 16=some (16,3):=by kernel_rfl
def fp35_16:= @fpW _ _ _ _ _ _ fo35_16 ts3 (by decide)
def fr35_16:= @frW _ _ _ _ _ _ fo35_16 ts3 (by decide)
theorem fo52_0:fieldOf Tryz.prog 52 0=some (0,3):=by kernel_rfl
def fp52_0:= @fpW _ _ _ _ _ _ fo52_0 ts3 (by decide)
def fr52_0:= @frW _ _ _ _ _ _ fo52_0 ts3 (by decide)
theorem fo52_1:fieldOf Tryz.prog 52 1=some (1,35):=by kernel_rfl
def fp52_1:= @fpW _ _ _ _ _ _ fo52_1 ts35 (by decide)
def fr52_1:= @frW _ _ _ _ _ _ fo52_1 ts35 (by decide)
theorem fo52_2:fieldOf Tryz.prog 52 2=some (37,29):=by kernel_rfl
def fp52_2:= @fpW _ _ _ _ _ _ fo52_2 ts29 (by decide)
def fr52_2:= @frW _ _ _ _ _ _ fo52_2 ts29 (by decide)
theorem fo52_3:fieldOf Tryz.prog 52 3=some (38,27):=by kernel_rfl
def fp52_3:= @fpW _ _ _ _ _ _ fo52_3 ts27 (by decide)
def fr52_3:= @frW _ _ _ _ _ _ fo52_3 ts27 (by decide)
theorem fo52_4:fieldOf Tryz.prog 52 4=some (43,3):=by kernel_rfl
def fp52_4:= @fpW _ _ _ _ _ _ fo52_4 ts3 (by decide)
def fr52_4:= @frW _ _ _ _ _ _ fo52_4 ts3 (by decide)
theorem fo62_0:fieldOf Tryz.prog 62 0=some (0,3):=by kernel_rfl
def fp62_0:= @fpW _ _ _ _ _ _ fo62_0 ts3 (by decide)
def fr62_0:= @frW _ _ _ _ _ _ fo62_0 ts3 (by decide)
theorem fd62_0: ∀ {xs:List AV},fdX Tryz.prog 62 0 (.agg xs)=part Tryz.prog xs 3 0:=fdX_at fo62_0
theorem fo62_1:fieldOf Tryz.prog 62 1=some (1,22):=by kernel_rfl
def fp62_1:= @fpW _ _ _ _ _ _ fo62_1 ts22 (by decide)
def fr62_1:= @frW _ _ _ _ _ _ fo62_1 ts22 (by decide)
theorem fd62_1: ∀ {xs:List AV},fdX Tryz.prog 62 1 (.agg xs)=part Tryz.prog xs 22 1:=fdX_at fo62_1
theorem fo62_2:fieldOf Tryz.prog 62 2=some (2,4):=by kernel_rfl
def fp62_2:= @fpW _ _ _ _ _ _ fo62_2 ts4 (by decide)
def fr62_2:= @frW _ _ _ _ _ _ fo62_2 ts4 (by decide)
theorem fo62_3:fieldOf Tryz.prog 62 3=some (3,27):=by kernel_rfl
def fp62_3:= @fpW _ _ _ _ _ _ fo62_3 ts27 (by decide)
def fr62_3:= @frW _ _ _ _ _ _ fo62_3 ts27 (by decide)
theorem fo67_0:fieldOf Tryz.prog 67 0=some (0,3):=by kernel_rfl
def fp67_0:= @fpW _ _ _ _ _ _ fo67_0 ts3 (by decide)
def fr67_0:= @frW _ _ _ _ _ _ fo67_0 ts3 (by decide)
theorem fo67_1:fieldOf Tryz.prog 67 1=some (1,35):=by kernel_rfl
def fp67_1:= @fpW _ _ _ _ _ _ fo67_1 ts35 (by decide)
def fr67_1:= @frW _ _ _ _ _ _ fo67_1 ts35 (by decide)
theorem fo67_2:fieldOf Tryz.prog 67 2=some (37,53):=by kernel_rfl
def fp67_2:= @fpW _ _ _ _ _ _ fo67_2 ts53 (by decide)
def fr67_2:= @frW _ _ _ _ _ _ fo67_2 ts53 (by decide)
theorem fo67_3:fieldOf Tryz.prog 67 3=some (38,3):=by kernel_rfl
def fp67_3:= @fpW _ _ _ _ _ _ fo67_3 ts3 (by decide)
def fr67_3:= @frW _ _ _ _ _ _ fo67_3 ts3 (by decide)
def bl27:= @blW _ _ _ tz27 tv27
theorem fl27_0:flP Tryz.prog 27 0=some (0,1):= @flW _ _ _ _ _ _ fo27_0 ts3
theorem fl27_1:flP Tryz.prog 27 1=some (1,1):= @flW _ _ _ _ _ _ fo27_1 ts22
theorem fl27_2:flP Tryz.prog 27 2=some (2,1):= @flW _ _ _ _ _ _ fo27_2 ts23
theorem fl27_3:flP Tryz.prog 27 3=some (3,1):= @flW _ _ _ _ _ _ fo27_3 ts24
theorem fl27_4:flP Tryz.prog 27 4=some (4,1):= @flW _ _ _ _ _ _ fo27_4 ts25
theorem tz35:tzero Tryz.prog 35=some [.v (.int .i64 0),.v (.slice none 0 0),.v (.bool false),.v (.bool false),.v (.bool false),.v (.bool false),.v (.bool false),.v (.slice none 0 0),.v (.bool false),.v (.int .u32 0),.v (.int .u32 0),.v (.int .u32 0),.v (.bool false),.v (.bool false),.v (.bool false),.v (.int .i64 0),.v (.int .i64 0),.v (.bool false),.v (.bool false),.v (.int .i64 0),.v (.slice none 0 0),.v (.slice none 0 0),.v (.slice none 0 0),.v (.slice none 0 0),.v (.int .i64 0),.v (.bool false),.v (.bool false),.v (.int .i64 0),.v (.int .i64 0),.v (.int .i64 0),.v (.bool false),.v (.int .i64 0),.v (.slice none 0 0),.v (.slice none 0 0),.v (.slice none 0 0),.v (.slice none 0 0)]:=by kernel_rfl
def bl35:= @blW _ _ _ tz35 tv35
theorem fl35_0:flP Tryz.prog 35 0=some (0,1):= @flW _ _ _ _ _ _ fo35_0 ts3
theorem fl35_16:flP Tryz.prog 35 16=some (16,1):= @flW _ _ _ _ _ _ fo35_16 ts3
theorem tz52:tzero Tryz.prog 52=some [.v (.int .i64 0),.v (.int .i64 0),.v (.slice none 0 0),.v (.bool false),.v (.bool false),.v (.bool false),.v (.bool false),.v (.bool false),.v (.slice none 0 0),.v (.bool false),.v (.int .u32 0),.v (.int .u32 0),.v (.int .u32 0),.v (.bool false),.v (.bool false),.v (.bool false),.v (.int .i64 0),.v (.int .i64 0),.v (.bool false),.v (.bool false),.v (.int .i64 0),.v (.slice none 0 0),.v (.slice none 0 0),.v (.slice none 0 0),.v (.slice none 0 0),.v (.int .i64 0),.v (.bool false),.v (.bool false),.v (.int .i64 0),.v (.int .i64 0),.v (.int .i64 0),.v (.bool false),.v (.int .i64 0),.v (.slice none 0 0),.v (.slice none 0 0),.v (.slice none 0 0),.v (.slice none 0 0),.v (.slice none 0 0),.v (.int .i64 0),.v (.slice none 0 0),.v (.slice none 0 0),.v (.slice none 0 0),.v (.slice none 0 0),.v (.int .i64 0)]:=by kernel_rfl
def bl52:= @blW _ _ _ tz52 tv52
theorem fl52_0:flP Tryz.prog 52 0=some (0,1):= @flW _ _ _ _ _ _ fo52_0 ts3
theorem fl52_1:flP Tryz.prog 52 1=some (1,36):= @flW _ _ _ _ _ _ fo52_1 ts35
theorem fl52_2:flP Tryz.prog 52 2=some (37,1):= @flW _ _ _ _ _ _ fo52_2 ts29
theorem fl52_3:flP Tryz.prog 52 3=some (38,5):= @flW _ _ _ _ _ _ fo52_3 ts27
theorem fl52_4:flP Tryz.prog 52 4=some (43,1):= @flW _ _ _ _ _ _ fo52_4 ts3
def bl62:= @blW _ _ _ tz62 tv62
theorem fl62_0:flP Tryz.prog 62 0=some (0,1):= @flW _ _ _ _ _ _ fo62_0 ts3
theorem fl62_1:flP Tryz.prog 62 1=some (1,1):= @flW _ _ _ _ _ _ fo62_1 ts22
theorem fl62_2:flP Tryz.prog 62 2=some (2,1):= @flW _ _ _ _ _ _ fo62_2 ts4
theorem fl62_3:flP Tryz.prog 62 3=some (3,5):= @flW _ _ _ _ _ _ fo62_3 ts27
theorem tz67:tzero Tryz.prog 67=some [.v (.int .i64 0),.v (.int .i64 0),.v (.slice none 0 0),.v (.bool false),.v (.bool false),.v (.bool false),.v (.bool false),.v (.bool false),.v (.slice none 0 0),.v (.bool false),.v (.int .u32 0),.v (.int .u32 0),.v (.int .u32 0),.v (.bool false),.v (.bool false),.v (.bool false),.v (.int .i64 0),.v (.int .i64 0),.v (.bool false),.v (.bool false),.v (.int .i64 0),.v (.slice none 0 0),.v (.slice none 0 0),.v (.slice none 0 0),.v (.slice none 0 0),.v (.int .i64 0),.v (.bool false),.v (.bool false),.v (.int .i64 0),.v (.int .i64 0),.v (.int .i64 0),.v (.bool false),.v (.int .i64 0),.v (.slice none 0 0),.v (.slice none 0 0),.v (.slice none 0 0),.v (.slice none 0 0),.v (.slice none 0 0),.v (.int .i64 0)]:=by kernel_rfl
def bl67:= @blW _ _ _ tz67 tv67
theorem fl67_0:flP Tryz.prog 67 0=some (0,1):= @flW _ _ _ _ _ _ fo67_0 ts3
theorem fl67_1:flP Tryz.prog 67 1=some (1,36):= @flW _ _ _ _ _ _ fo67_1 ts35
theorem fl67_2:flP Tryz.prog 67 2=some (37,1):= @flW _ _ _ _ _ _ fo67_2 ts53
theorem fl67_3:flP Tryz.prog 67 3=some (38,1):= @flW _ _ _ _ _ _ fo67_3 ts3
def al3:= @alW _ _ _ tz3
def aq3:= @aqW _ _ _ tz3
def al22:= @alW _ _ _ tz22
def aq22:= @aqW _ _ _ tz22
def al27:= @alW _ _ _ tz27
def aq27:= @aqW _ _ _ tz27
def al35:= @alW _ _ _ tz35
def aq35:= @aqW _ _ _ tz35
def al62:= @alW _ _ _ tz62
def aq62:= @aqW _ _ _ tz62
def al67:= @alW _ _ _ tz67
def aq67:= @aqW _ _ _ tz67
theorem ab4: ∀ {op:BinOp} {a b:Bool},abin Tryz.prog op 4 (.v (.bool a)) (.v (.bool b))=abinB op a b:=abin_bool tv4
theorem sc22:sliceCells Tryz.prog 4 22=[2]:=by kernel_rfl
theorem ty22:typed Tryz.prog 22 (.v (.slice none 0 0))= .fresh 1 0 []:=ty_nil sc22
theorem sc23:sliceCells Tryz.prog 4 23=[2]:=by kernel_rfl
theorem ty23:typed Tryz.prog 23 (.v (.slice none 0 0))= .fresh 1 0 []:=ty_nil sc23
theorem sc24:sliceCells Tryz.prog 4 24=[2]:=by kernel_rfl
theorem ty24:typed Tryz.prog 24 (.v (.slice none 0 0))= .fresh 1 0 []:=ty_nil sc24
theorem sc25:sliceCells Tryz.prog 4 25=[2]:=by kernel_rfl
theorem ty25:typed Tryz.prog 25 (.v (.slice none 0 0))= .fresh 1 0 []:=ty_nil sc25
theorem sc27:sliceCells Tryz.prog 4 27=[0,2,2,2,2]:=by kernel_rfl
theorem ty27: ∀ {xs:List AV},typed Tryz.prog 27 (.agg xs)= .agg (nilNew xs [0,2,2,2,2]):=ty_agg sc27
theorem sc29:sliceCells Tryz.prog 4 29=[6]:=by kernel_rfl
theorem ty29:typed Tryz.prog 29 (.v (.slice none 0 0))= .fresh 5 0 []:=ty_nil sc29
theorem sc53:sliceCells Tryz.prog 4 53=[9]:=by kernel_rfl
theorem ty53:typed Tryz.prog 53 (.v (.slice none 0 0))= .fresh 8 0 []:=ty_nil sc53
theorem sc62:sliceCells Tryz.prog 4 62=[0,2,0,0,2,2,2,2]:=by kernel_rfl
theorem ty62: ∀ {xs:List AV},typed Tryz.prog 62 (.agg xs)= .agg (nilNew xs [0,2,0,0,2,2,2,2]):=ty_agg sc62
theorem sc69:sliceCells Tryz.prog 4 69=[2]:=by kernel_rfl
theorem ty69:typed Tryz.prog 69 (.v (.slice none 0 0))= .fresh 1 0 []:=ty_nil sc69
theorem c_T_Tensor_at{x:T_Tensor}:c_T_Tensor x=[.v (.int .i64 x.fType),.arr x.fDims.length (lm (ik .i64) x.fDims),.arr x.fF.length (lm (ik .u32) x.fF),.arr x.fI.length (lm (ik .i64) x.fI),.arr x.fB.length (lm (bk) x.fB)]:=rfl
theorem c_T_Setting_at{x:T_Setting}:c_T_Setting x=[.v (.int .i64 x.fAxis),.arr x.fAxes.length (lm (ik .i64) x.fAxes),.v (.bool x.fHasAxes),.v (.bool x.fKeep),.v (.bool x.fNoop),.v (.bool x.fLast),.v (.bool x.fZero),.arr x.fPerm.length (lm (ik .i64) x.fPerm),.v (.bool x.fHasPerm),.v (.int .u32 x.fAlpha),.v (.int .u32 x.fBeta),.v (.int .u32 x.fEpsilon),.v (.bool x.fLow),.v (.bool x.fHigh),.v (.bool x.fFmod),.v (.int .i64 x.fTo),.v (.int .i64 x.fMode),.v (.bool x.fTransA),.v (.bool x.fTransB),.v (.int .i64 x.fGroup),.arr x.fKernel.length (lm (ik .i64) x.fKernel),.arr x.fStrides.length (lm (ik .i64) x.fStrides),.arr x.fPads.length (lm (ik .i64) x.fPads),.arr x.fDilations.length (lm (ik .i64) x.fDilations),.v (.int .i64 x.fAuto),.v (.bool x.fCeil),.v (.bool x.fCount),.v (.int .i64 x.fBlock),.v (.int .i64 x.fStart),.v (.int .i64 x.fEnd),.v (.bool x.fHasEnd),.v (.int .i64 x.fValue.fType),.arr x.fValue.fDims.length (lm (ik .i64) x.fValue.fDims),.arr x.fValue.fF.length (lm (ik .u32) x.fValue.fF),.arr x.fValue.fI.length (lm (ik .i64) x.fValue.fI),.arr x.fValue.fB.length (lm (bk) x.fValue.fB)]:=rfl
theorem c_T_Val_at{x:T_Val}:c_T_Val x=[.v (.int .i64 x.fType),.arr x.fDims.length (lm (ik .i64) x.fDims),.v (.bool x.fConst),.v (.int .i64 x.fT.fType),.arr x.fT.fDims.length (lm (ik .i64) x.fT.fDims),.arr x.fT.fF.length (lm (ik .u32) x.fT.fF),.arr x.fT.fI.length (lm (ik .i64) x.fT.fI),.arr x.fT.fB.length (lm (bk) x.fT.fB)]:=rfl
theorem c_T_infer_ask_at{x:T_infer_ask}:c_T_infer_ask x=[.v (.int .i64 x.fop),.v (.int .i64 x.fs.fAxis),.arr x.fs.fAxes.length (lm (ik .i64) x.fs.fAxes),.v (.bool x.fs.fHasAxes),.v (.bool x.fs.fKeep),.v (.bool x.fs.fNoop),.v (.bool x.fs.fLast),.v (.bool x.fs.fZero),.arr x.fs.fPerm.length (lm (ik .i64) x.fs.fPerm),.v (.bool x.fs.fHasPerm),.v (.int .u32 x.fs.fAlpha),.v (.int .u32 x.fs.fBeta),.v (.int .u32 x.fs.fEpsilon),.v (.bool x.fs.fLow),.v (.bool x.fs.fHigh),.v (.bool x.fs.fFmod),.v (.int .i64 x.fs.fTo),.v (.int .i64 x.fs.fMode),.v (.bool x.fs.fTransA),.v (.bool x.fs.fTransB),.v (.int .i64 x.fs.fGroup),.arr x.fs.fKernel.length (lm (ik .i64) x.fs.fKernel),.arr x.fs.fStrides.length (lm (ik .i64) x.fs.fStrides),.arr x.fs.fPads.length (lm (ik .i64) x.fs.fPads),.arr x.fs.fDilations.length (lm (ik .i64) x.fs.fDilations),.v (.int .i64 x.fs.fAuto),.v (.bool x.fs.fCeil),.v (.bool x.fs.fCount),.v (.int .i64 x.fs.fBlock),.v (.int .i64 x.fs.fStart),.v (.int .i64 x.fs.fEnd),.v (.bool x.fs.fHasEnd),.v (.int .i64 x.fs.fValue.fType),.arr x.fs.fValue.fDims.length (lm (ik .i64) x.fs.fValue.fDims),.arr x.fs.fValue.fF.length (lm (ik .u32) x.fs.fValue.fF),.arr x.fs.fValue.fI.length (lm (ik .i64) x.fs.fValue.fI),.arr x.fs.fValue.fB.length (lm (bk) x.fs.fValue.fB),.arr x.fin.length (fm c_T_Val x.fin),.v (.int .i64 x.fouts)]:=rfl
theorem c_T_moves_move_at{x:T_moves_move}:c_T_moves_move x=[.v (.int .i64 x.fop),.v (.int .i64 x.fs.fAxis),.arr x.fs.fAxes.length (lm (ik .i64) x.fs.fAxes),.v (.bool x.fs.fHasAxes),.v (.bool x.fs.fKeep),.v (.bool x.fs.fNoop),.v (.bool x.fs.fLast),.v (.bool x.fs.fZero),.arr x.fs.fPerm.length (lm (ik .i64) x.fs.fPerm),.v (.bool x.fs.fHasPerm),.v (.int .u32 x.fs.fAlpha),.v (.int .u32 x.fs.fBeta),.v (.int .u32 x.fs.fEpsilon),.v (.bool x.fs.fLow),.v (.bool x.fs.fHigh),.v (.bool x.fs.fFmod),.v (.int .i64 x.fs.fTo),.v (.int .i64 x.fs.fMode),.v (.bool x.fs.fTransA),.v (.bool x.fs.fTransB),.v (.int .i64 x.fs.fGroup),.arr x.fs.fKernel.length (lm (ik .i64) x.fs.fKernel),.arr x.fs.fStrides.length (lm (ik .i64) x.fs.fStrides),.arr x.fs.fPads.length (lm (ik .i64) x.fs.fPads),.arr x.fs.fDilations.length (lm (ik .i64) x.fs.fDilations),.v (.int .i64 x.fs.fAuto),.v (.bool x.fs.fCeil),.v (.bool x.fs.fCount),.v (.int .i64 x.fs.fBlock),.v (.int .i64 x.fs.fStart),.v (.int .i64 x.fs.fEnd),.v (.bool x.fs.fHasEnd),.v (.int .i64 x.fs.fValue.fType),.arr x.fs.fValue.fDims.length (lm (ik .i64) x.fs.fValue.fDims),.arr x.fs.fValue.fF.length (lm (ik .u32) x.fs.fValue.fF),.arr x.fs.fValue.fI.length (lm (ik .i64) x.fs.fValue.fI),.arr x.fs.fValue.fB.length (lm (bk) x.fs.fValue.fB),.arr x.fin.length (fm c_T_Tensor x.fin),.v (.int .i64 x.fx.fType),.arr x.fx.fDims.length (lm (ik .i64) x.fx.fDims),.arr x.fx.fF.length (lm (ik .u32) x.fx.fF),.arr x.fx.fI.length (lm (ik .i64) x.fx.fI),.arr x.fx.fB.length (lm (bk) x.fx.fB),.v (.int .i64 x.faxis)]:=rfl
theorem c_T_Tensor_inj:Inj c_T_Tensor:=by
  intro a b h
  obtain⟨a0,a1,a2,a3,a4⟩:=a
  obtain⟨b0,b1,b2,b3,b4⟩:=b
  simp only[c_T_Tensor_at,INJ]at h
  simp_all
theorem c_T_Setting_inj:Inj c_T_Setting:=by
  intro a b h
  obtain⟨a0,a1,a2,a3,a4,a5,a6,a7,a8,a9,a10,a11,a12,a13,a14,a15,a16,a17,a18,a19,a20,a21,a22,a23,a24,a25,a26,a27,a28,a29,a30,⟨a_310,a_311,a_312,a_313,a_314⟩⟩:=a
  obtain⟨b0,b1,b2,b3,b4,b5,b6,b7,b8,b9,b10,b11,b12,b13,b14,b15,b16,b17,b18,b19,b20,b21,b22,b23,b24,b25,b26,b27,b28,b29,b30,⟨b_310,b_311,b_312,b_313,b_314⟩⟩:=b
  simp only[c_T_Setting_at,INJ,@c_inj_iff _ _ c_T_Tensor_inj,@lm_inj_iff _ _ (inj_avf (inj_fm c_T_Tensor_len (by decide) c_T_Tensor_inj)),@fm_inj_iff _ _ (inj_fm c_T_Tensor_len (by decide) c_T_Tensor_inj)]at h
  simp_all
theorem c_T_Val_inj:Inj c_T_Val:=by
  intro a b h
  obtain⟨a0,a1,a2,⟨a_30,a_31,a_32,a_33,a_34⟩⟩:=a
  obtain⟨b0,b1,b2,⟨b_30,b_31,b_32,b_33,b_34⟩⟩:=b
  simp only[c_T_Val_at,INJ,@c_inj_iff _ _ c_T_Tensor_inj,@lm_inj_iff _ _ (inj_avf (inj_fm c_T_Tensor_len (by decide) c_T_Tensor_inj)),@fm_inj_iff _ _ (inj_fm c_T_Tensor_len (by decide) c_T_Tensor_inj),@c_inj_iff _ _ c_T_Setting_inj,@lm_inj_iff _ _ (inj_avf (inj_fm c_T_Setting_len (by decide) c_T_Setting_inj)),@fm_inj_iff _ _ (inj_fm c_T_Setting_len (by decide) c_T_Setting_inj)]at h
  simp_all
theorem c_T_infer_ask_inj:Inj c_T_infer_ask:=by
  intro a b h
  obtain⟨a0,⟨a_10,a_11,a_12,a_13,a_14,a_15,a_16,a_17,a_18,a_19,a_110,a_111,a_112,a_113,a_114,a_115,a_116,a_117,a_118,a_119,a_120,a_121,a_122,a_123,a_124,a_125,a_126,a_127,a_128,a_129,a_130,⟨a_1_310,a_1_311,a_1_312,a_1_313,a_1_314⟩⟩,a2,a3⟩:=a
  obtain⟨b0,⟨b_10,b_11,b_12,b_13,b_14,b_15,b_16,b_17,b_18,b_19,b_110,b_111,b_112,b_113,b_114,b_115,b_116,b_117,b_118,b_119,b_120,b_121,b_122,b_123,b_124,b_125,b_126,b_127,b_128,b_129,b_130,⟨b_1_310,b_1_311,b_1_312,b_1_313,b_1_314⟩⟩,b2,b3⟩:=b
  simp only[c_T_infer_ask_at,INJ,@c_inj_iff _ _ c_T_Tensor_inj,@lm_inj_iff _ _ (inj_avf (inj_fm c_T_Tensor_len (by decide) c_T_Tensor_inj)),@fm_inj_iff _ _ (inj_fm c_T_Tensor_len (by decide) c_T_Tensor_inj),@c_inj_iff _ _ c_T_Setting_inj,@lm_inj_iff _ _ (inj_avf (inj_fm c_T_Setting_len (by decide) c_T_Setting_inj)),@fm_inj_iff _ _ (inj_fm c_T_Setting_len (by decide) c_T_Setting_inj),@c_inj_iff _ _ c_T_Val_inj,@lm_inj_iff _ _ (inj_avf (inj_fm c_T_Val_len (by decide) c_T_Val_inj)),@fm_inj_iff _ _ (inj_fm c_T_Val_len (by decide) c_T_Val_inj)]at h
  simp_all
theorem c_T_moves_move_inj:Inj c_T_moves_move:=by
  intro a b h
  obtain⟨a0,⟨a_10,a_11,a_12,a_13,a_14,a_15,a_16,a_17,a_18,a_19,a_110,a_111,a_112,a_113,a_114,a_115,a_116,a_117,a_118,a_119,a_120,a_121,a_122,a_123,a_124,a_125,a_126,a_127,a_128,a_129,a_130,⟨a_1_310,a_1_311,a_1_312,a_1_313,a_1_314⟩⟩,a2,⟨a_30,a_31,a_32,a_33,a_34⟩,a4⟩:=a
  obtain⟨b0,⟨b_10,b_11,b_12,b_13,b_14,b_15,b_16,b_17,b_18,b_19,b_110,b_111,b_112,b_113,b_114,b_115,b_116,b_117,b_118,b_119,b_120,b_121,b_122,b_123,b_124,b_125,b_126,b_127,b_128,b_129,b_130,⟨b_1_310,b_1_311,b_1_312,b_1_313,b_1_314⟩⟩,b2,⟨b_30,b_31,b_32,b_33,b_34⟩,b4⟩:=b
  simp only[c_T_moves_move_at,INJ,@c_inj_iff _ _ c_T_Tensor_inj,@lm_inj_iff _ _ (inj_avf (inj_fm c_T_Tensor_len (by decide) c_T_Tensor_inj)),@fm_inj_iff _ _ (inj_fm c_T_Tensor_len (by decide) c_T_Tensor_inj),@c_inj_iff _ _ c_T_Setting_inj,@lm_inj_iff _ _ (inj_avf (inj_fm c_T_Setting_len (by decide) c_T_Setting_inj)),@fm_inj_iff _ _ (inj_fm c_T_Setting_len (by decide) c_T_Setting_inj),@c_inj_iff _ _ c_T_Val_inj,@lm_inj_iff _ _ (inj_avf (inj_fm c_T_Val_len (by decide) c_T_Val_inj)),@fm_inj_iff _ _ (inj_fm c_T_Val_len (by decide) c_T_Val_inj),@c_inj_iff _ _ c_T_infer_ask_inj,@lm_inj_iff _ _ (inj_avf (inj_fm c_T_infer_ask_len (by decide) c_T_infer_ask_inj)),@fm_inj_iff _ _ (inj_fm c_T_infer_ask_len (by decide) c_T_infer_ask_inj)]at h
  simp_all
def TT0:=And.intro @ts2<|And.intro @pt2<|And.intro @st2<|And.intro @ts3<|And.intro @pt3<|And.intro @st3<|And.intro @ts4<|And.intro @pt4<|And.intro @sb4<|And.intro @ts5<|And.intro @pt5<|And.intro @st5<|And.intro @ts9<|And.intro @pt9<|And.intro @le9<|And.intro @ix9<|And.intro @ts22<|And.intro @pt22<|And.intro @ia22<|And.intro @io22<|And.intro @le22<|And.intro @mk22<|And.intro @ap22<|And.intro @bs22<|And.intro @sa22<|And.intro @so22<|And.intro @ts23<|And.intro @pt23<|And.intro @ia23<|And.intro @io23<|And.intro @le23<|And.intro @mk23<|And.intro @ap23<|And.intro @bs23<|And.intro @sa23<|And.intro @so23<|And.intro @ts24<|And.intro @pt24<|And.intro @ia24<| @io24
def TT1:=And.intro @le24<|And.intro @mk24<|And.intro @ap24<|And.intro @bs24<|And.intro @sa24<|And.intro @so24<|And.intro @ts25<|And.intro @pt25<|And.intro @ia25<|And.intro @io25<|And.intro @le25<|And.intro @mk25<|And.intro @ap25<|And.intro @bs25<|And.intro @sa25<|And.intro @so25<|And.intro @ts27<|And.intro @pt27<|And.intro @sg27<|And.intro @ts29<|And.intro @pt29<|And.intro @ia29<|And.intro @io29<|And.intro @le29<|And.intro @ap29<|And.intro @af29<|And.intro @bs29<|And.intro @sa29<|And.intro @so29<|And.intro @ts30<|And.intro @pt30<|And.intro @st30<|And.intro @ts33<|And.intro @pt33<|And.intro @st33<|And.intro @ts35<|And.intro @pt35<|And.intro @sg35<|And.intro @ts50<| @pt50
def TT2:=And.intro @ts52<|And.intro @pt52<|And.intro @ts53<|And.intro @pt53<|And.intro @ia53<|And.intro @io53<|And.intro @le53<|And.intro @ap53<|And.intro @af53<|And.intro @bs53<|And.intro @sa53<|And.intro @so53<|And.intro @ts62<|And.intro @pt62<|And.intro @sg62<|And.intro @ts67<|And.intro @pt67<|And.intro @sg67<|And.intro @ts69<|And.intro @pt69<|And.intro @ia69<|And.intro @io69<|And.intro @le69<|And.intro @bs69<|And.intro @sa69<|And.intro @so69<|And.intro @fo27_0<|And.intro @fp27_0<|And.intro @fr27_0<|And.intro @fo27_1<|And.intro @fp27_1<|And.intro @fr27_1<|And.intro @fo27_2<|And.intro @fp27_2<|And.intro @fr27_2<|And.intro @fo27_3<|And.intro @fp27_3<|And.intro @fr27_3<|And.intro @fo27_4<| @fp27_4
def TT3:=And.intro @fr27_4<|And.intro @fo35_0<|And.intro @fp35_0<|And.intro @fr35_0<|And.intro @fo35_16<|And.intro @fp35_16<|And.intro @fr35_16<|And.intro @fo52_0<|And.intro @fp52_0<|And.intro @fr52_0<|And.intro @fo52_1<|And.intro @fp52_1<|And.intro @fr52_1<|And.intro @fo52_2<|And.intro @fp52_2<|And.intro @fr52_2<|And.intro @fo52_3<|And.intro @fp52_3<|And.intro @fr52_3<|And.intro @fo52_4<|And.intro @fp52_4<|And.intro @fr52_4<|And.intro @fo62_0<|And.intro @fp62_0<|And.intro @fr62_0<|And.intro @fd62_0<|And.intro @fo62_1<|And.intro @fp62_1<|And.intro @fr62_1<|And.intro @fd62_1<|And.intro @fo62_2<|And.intro @fp62_2<|And.intro @fr62_2<|And.intro @fo62_3<|And.intro @fp62_3<|And.intro @fr62_3<|And.intro @fo67_0<|And.intro @fp67_0<|And.intro @fr67_0<| @fo67_1
def TT4:=And.intro @fp67_1<|And.intro @fr67_1<|And.intro @fo67_2<|And.intro @fp67_2<|And.intro @fr67_2<|And.intro @fo67_3<|And.intro @fp67_3<|And.intro @fr67_3<|And.intro @bl27<|And.intro @fl27_0<|And.intro @fl27_1<|And.intro @fl27_2<|And.intro @fl27_3<|And.intro @fl27_4<|And.intro @bl35<|And.intro @fl35_0<|And.intro @fl35_16<|And.intro @bl52<|And.intro @fl52_0<|And.intro @fl52_1<|And.intro @fl52_2<|And.intro @fl52_3<|And.intro @fl52_4<|And.intro @bl62<|And.intro @fl62_0<|And.intro @fl62_1<|And.intro @fl62_2<|And.intro @fl62_3<|And.intro @bl67<|And.intro @fl67_0<|And.intro @fl67_1<|And.intro @fl67_2<|And.intro @fl67_3<|And.intro @al3<|And.intro @aq3<|And.intro @al22<|And.intro @aq22<|And.intro @al27<|And.intro @aq27<| @al35
def TT5:=And.intro @aq35<|And.intro @al62<|And.intro @aq62<|And.intro @al67<|And.intro @aq67<|And.intro @ab4<|And.intro @ty22<|And.intro @ty23<|And.intro @ty24<|And.intro @ty25<|And.intro @ty27<|And.intro @ty29<|And.intro @ty53<|And.intro @ty62<|And.intro @ty69<|And.intro @c_T_Tensor_at<|And.intro (λl=> @one_fm _ c_T_Tensor l c_T_Tensor_one)<|And.intro @c_T_Setting_at<|And.intro (λl=> @one_fm _ c_T_Setting l c_T_Setting_one)<|And.intro @c_T_Val_at<|And.intro (λl=> @one_fm _ c_T_Val l c_T_Val_one)<|And.intro @c_T_infer_ask_at<|And.intro (λl=> @one_fm _ c_T_infer_ask l c_T_infer_ask_one)<|And.intro @c_T_moves_move_at<|(λl=> @one_fm _ c_T_moves_move l c_T_moves_move_one)
def TT:=And.intro @TT0<|And.intro @TT1<|And.intro @TT2<|And.intro @TT3<|And.intro @TT4<| @TT5
def OF:=And.intro (λl=> @one_fm _ c_T_Tensor l c_T_Tensor_one)<|And.intro (λl=> @one_fm _ c_T_Setting l c_T_Setting_one)<|And.intro (λl=> @one_fm _ c_T_Val l c_T_Val_one)<|And.intro (λl=> @one_fm _ c_T_infer_ask l c_T_infer_ask_one)<|(λl=> @one_fm _ c_T_moves_move l c_T_moves_move_one)
def NT:=And.intro @c_T_Tensor_at<|And.intro @c_T_Setting_at<|And.intro @c_T_Val_at<|And.intro @c_T_infer_ask_at<| @c_T_moves_move_at
def OZ:=And.intro LN<|And.intro RO OF
theorem Zd{p:Prop}(h:p:=by first|assumption|decide|with_unfolding_all rfl|omega|simp only[OZ] <;> omega|fail):p:=h
theorem Ze{p:Prop}(h:p:=by first|rfl|(simp only[LN,NN,NT])):p:=h
theorem Zh{p:Prop}(h:p:=by first|(simp (disch:=first|exact Zd|fail) only[RR,simprocAttr,LN,NN,NT];done)|(simp (disch:=first|exact Zd|fail) only[RR,simprocAttr,LN,fm_app,NN,NT];done)|rfl):p:=h
def FN:=And.intro FF<|And.intro LN<|And.intro NN NT
def ZZ:=And.intro RR<|And.intro RM<|And.intro LN<|And.intro TT RH
theorem Jc{β:Type}{m m':Option AV}{s:Option β}{enc:β->AV}(j:J m' s enc)(h:m=m':=by conv=>lhs;simp (disch:=first|exact Zd|fail) only[ZZ,simprocAttr, *]):J m s enc:=J.eq h j
theorem Js{p:Prop}(h:p:=by simp (maxSteps:=20000000) (disch:=first|exact Zd|fail) only[ZZ,simprocAttr,FN, *]):p:=h
def IJ:=And.intro (@c_inj_iff _ _ c_T_Tensor_inj)<|And.intro (@lm_inj_iff _ _ (inj_avf (inj_fm c_T_Tensor_len (by decide) c_T_Tensor_inj)))<|And.intro (@fm_inj_iff _ _ (inj_fm c_T_Tensor_len (by decide) c_T_Tensor_inj))<|And.intro (@c_inj_iff _ _ c_T_Setting_inj)<|And.intro (@lm_inj_iff _ _ (inj_avf (inj_fm c_T_Setting_len (by decide) c_T_Setting_inj)))<|And.intro (@fm_inj_iff _ _ (inj_fm c_T_Setting_len (by decide) c_T_Setting_inj))<|And.intro (@c_inj_iff _ _ c_T_Val_inj)<|And.intro (@lm_inj_iff _ _ (inj_avf (inj_fm c_T_Val_len (by decide) c_T_Val_inj)))<|And.intro (@fm_inj_iff _ _ (inj_fm c_T_Val_len (by decide) c_T_Val_inj))<|And.intro (@c_inj_iff _ _ c_T_infer_ask_inj)<|And.intro (@lm_inj_iff _ _ (inj_avf (inj_fm c_T_infer_ask_len (by decide) c_T_infer_ask_inj)))<|And.intro (@fm_inj_iff _ _ (inj_fm c_T_infer_ask_len (by decide) c_T_infer_ask_inj))<|And.intro (@c_inj_iff _ _ c_T_moves_move_inj)<|And.intro (@lm_inj_iff _ _ (inj_avf (inj_fm c_T_moves_move_len (by decide) c_T_moves_move_inj)))<|(@fm_inj_iff _ _ (inj_fm c_T_moves_move_len (by decide) c_T_moves_move_inj))
theorem Zi{p:Prop}(h:p:=by intro a b h;first|(exact rfl)|(simp only[INJ,IJ]at h;first|exact h|(simp_all [Prod.ext_iff]))):p:=h
def ZG:=And.intro ZZ<|And.intro RU<|And.intro @go_seq<|And.intro @ret_seq<|And.intro @Nat.sub_zero @Nat.zero_le
def ZN:=And.intro ZZ RU
theorem Jg{β:Type}{m m':Option AV}{s:Option β}{enc:β->AV}(j:J m' s enc)(h:m=m':=by conv=>lhs;try simp (maxSteps:=20000000) (disch:=first|exact Zd|fail) only[ZG,simprocAttr, *]):J m s enc:=J.eq h j
theorem Jn{β:Type}{m m':Option AV}{s:Option β}{enc:β->AV}{i:Nat}{ρ τ:Type}{r:ρ}{fj:τ->Option β}(j:J m' (jn i r fj s) enc)(h:m=m':=by conv=>lhs;simp (maxSteps:=20000000) (disch:=first|exact Zd|fail) only[ZN,simprocAttr, *]):J m (jn i r fj s) enc:=J.eq h j
theorem Jk{β:Type}{m m':Option AV}{s:Option β}{enc:β->AV}{i:Nat}{ρ τ:Type}{r:ρ}{fj:τ->Option β}(j:J m' (jc i r fj s) enc)(h:m=m':=by conv=>lhs;simp (maxSteps:=20000000) (disch:=first|exact Zd|fail) only[ZN,simprocAttr, *]):J m (jc i r fj s) enc:=J.eq h j
theorem Jl{β:Type}{m m':Option AV}{enc:β->AV}{σ:Type}{body:(σ->Option β)->σ->Option β}{k:Nat}{s0:σ}(j:J m' (cloop body k s0) enc)(h:m=m':=by conv=>lhs;simp (maxSteps:=20000000) (disch:=first|exact Zd|fail) only[ZN,simprocAttr, *]):J m (cloop body k s0) enc:=J.eq h j
theorem Jw{p:Prop}(h:p:=by simp (maxSteps:=20000000) (disch:=first|exact Zd|fail) only[ZG,simprocAttr,FN, *]):p:=h
theorem Zx{p:Prop}(h:p:=by first|rfl|(simp only[LN,NN,NT];done)|(simp (disch:=first|exact Zd|fail) only[RR,simprocAttr,LN,NN,NT];done)|(simp (disch:=first|exact Zd|fail) only[RR,simprocAttr,LN,fm_app,NN,NT];done)|(simp (maxSteps:=20000000) (disch:=first|exact Zd|fail) only[ZZ,simprocAttr,kinV_at,kinVB_at,FN, *];done)|(simp (maxSteps:=20000000) (disch:=first|exact Zd|fail) only[ZZ,simprocAttr,kinV_at,kinVB_at,fm_app,FN, *];done)):p:=h
theorem J.gi{β:Type}{m:Option AV}{s:Option β}{enc:β->AV}{c:Prop}{dd:Decidable c}{s1:Option β}(j:J m (if c then s else s1) enc):J m (if c then s else s1) enc:=j
theorem J.gj{β:Type}{m:Option AV}{s:Option β}{enc:β->AV}{i:Nat}{ρ τ:Type}{r:ρ}{fj:τ->Option β}(j:J m (jn i r fj s) enc):J m (jn i r fj s) enc:=j
theorem J.gk{β:Type}{m:Option AV}{s:Option β}{enc:β->AV}{i:Nat}{ρ τ:Type}{r:ρ}{fj:τ->Option β}(j:J m (jc i r fj s) enc):J m (jc i r fj s) enc:=j
theorem J.gl{β:Type}{m:Option AV}{enc:β->AV}{σ:Type}{body:(σ->Option β)->σ->Option β}{k:Nat}{s0:σ}(j:J m (cloop body k s0) enc):J m (cloop body k s0) enc:=j
theorem Wk{p:Prop}(h:p:=by repeat' first|with_reducible exact J.none|with_reducible refine J.chk λc=> ?_ |(with_reducible refine J.atI λr a b c d=> ?_;try simp only[Int.toNat_natCast,LN,Nat.sub_zero,Nat.zero_mul,Nat.zero_add,Nat.add_zero,List.drop_zero,simprocAttr]at b c d)|(with_reducible refine J.atB λr a b c d=> ?_;try simp only[Int.toNat_natCast,LN,Nat.sub_zero,Nat.zero_mul,Nat.zero_add,Nat.add_zero,List.drop_zero,simprocAttr]at b c d)|(with_reducible refine J.atL λr a b c d=> ?_;try simp only[Int.toNat_natCast,LN,Nat.sub_zero,Nat.zero_mul,Nat.zero_add,Nat.add_zero,List.drop_zero,simprocAttr]at b c d)|(with_reducible refine J.atN c_T_Tensor_len λr b c d=> ?_;try simp only[Int.toNat_natCast,LN,Nat.sub_zero,Nat.zero_mul,Nat.zero_add,Nat.add_zero,List.drop_zero,simprocAttr]at b c d)|(with_reducible refine J.atS c_T_Tensor_len λr a b c d=> ?_;try simp only[Int.toNat_natCast,LN,Nat.sub_zero,Nat.zero_mul,Nat.zero_add,Nat.add_zero,List.drop_zero,simprocAttr]at b c d)|(with_reducible refine J.atN c_T_Setting_len λr b c d=> ?_;try simp only[Int.toNat_natCast,LN,Nat.sub_zero,Nat.zero_mul,Nat.zero_add,Nat.add_zero,List.drop_zero,simprocAttr]at b c d)|(with_reducible refine J.atS c_T_Setting_len λr a b c d=> ?_;try simp only[Int.toNat_natCast,LN,Nat.sub_zero,Nat.zero_mul,Nat.zero_add,Nat.add_zero,List.drop_zero,simprocAttr]at b c d)|(with_reducible refine J.atN c_T_Val_len λr b c d=> ?_;try simp only[Int.toNat_natCast,LN,Nat.sub_zero,Nat.zero_mul,Nat.zero_add,Nat.add_zero,List.drop_zero,simprocAttr]at b c d)|(with_reducible refine J.atS c_T_Val_len λr a b c d=> ?_;try simp only[Int.toNat_natCast,LN,Nat.sub_zero,Nat.zero_mul,Nat.zero_add,Nat.add_zero,List.drop_zero,simprocAttr]at b c d)|(with_reducible refine J.atN c_T_infer_ask_len λr b c d=> ?_;try simp only[Int.toNat_natCast,LN,Nat.sub_zero,Nat.zero_mul,Nat.zero_add,Nat.add_zero,List.drop_zero,simprocAttr]at b c d)|(with_reducible refine J.atS c_T_infer_ask_len λr a b c d=> ?_;try simp only[Int.toNat_natCast,LN,Nat.sub_zero,Nat.zero_mul,Nat.zero_add,Nat.add_zero,List.drop_zero,simprocAttr]at b c d)|(with_reducible refine J.atN c_T_moves_move_len λr b c d=> ?_;try simp only[Int.toNat_natCast,LN,Nat.sub_zero,Nat.zero_mul,Nat.zero_add,Nat.add_zero,List.drop_zero,simprocAttr]at b c d)|(with_reducible refine J.atS c_T_moves_move_len λr a b c d=> ?_;try simp only[Int.toNat_natCast,LN,Nat.sub_zero,Nat.zero_mul,Nat.zero_add,Nat.add_zero,List.drop_zero,simprocAttr]at b c d)|(with_reducible refine J.atM (c:=c_T_Tensor) λr a b c d=> ?_;try simp only[Int.toNat_natCast,LN,Nat.sub_zero,Nat.zero_mul,Nat.zero_add,Nat.add_zero,List.drop_zero,simprocAttr]at b c d)|(with_reducible refine J.atM (c:=c_T_Setting) λr a b c d=> ?_;try simp only[Int.toNat_natCast,LN,Nat.sub_zero,Nat.zero_mul,Nat.zero_add,Nat.add_zero,List.drop_zero,simprocAttr]at b c d)|(with_reducible refine J.atM (c:=c_T_Val) λr a b c d=> ?_;try simp only[Int.toNat_natCast,LN,Nat.sub_zero,Nat.zero_mul,Nat.zero_add,Nat.add_zero,List.drop_zero,simprocAttr]at b c d)|(with_reducible refine J.atM (c:=c_T_infer_ask) λr a b c d=> ?_;try simp only[Int.toNat_natCast,LN,Nat.sub_zero,Nat.zero_mul,Nat.zero_add,Nat.add_zero,List.drop_zero,simprocAttr]at b c d)|(with_reducible refine J.atM (c:=c_T_moves_move) λr a b c d=> ?_;try simp only[Int.toNat_natCast,LN,Nat.sub_zero,Nat.zero_mul,Nat.zero_add,Nat.add_zero,List.drop_zero,simprocAttr]at b c d)|with_reducible refine J.sat λr a=> ?_ |((with_reducible refine J.bind λx h=> ?_);(first|with_reducible have e:=H1.ap h|with_reducible have e:=H2.ap h|with_reducible have e:=H3.ap h|with_reducible have e:=H4.ap h|with_reducible have e:=H5.ap h|with_reducible have e:=H6.ap h);try simp only[NN,NT,LN,simprocAttr,DT]at e)|(with_reducible refine J.some ?_;exact Jw)|(with_reducible refine J.gi ?_;refine Jg ?_;first|with_reducible refine J.iteLt (λh k=> ?_) (λh k=> ?_)|with_reducible refine J.iteLe (λh k=> ?_) (λh k=> ?_)|with_reducible refine J.iteEq (λh k l=> ?_) (λh=> ?_)|with_reducible refine J.iteB (λh=> ?_) (λh=> ?_)|with_reducible refine J.iteD (λh=> ?_) (λh=> ?_))|(first|with_reducible refine J.hd (W1.eq_1 ..) ?_ |with_reducible refine J.hd (W2.eq_1 ..) ?_ |with_reducible refine J.hd (W3.eq_1 ..) ?_)|(with_reducible refine J.gj ?_;first|(first|(refine J.joinT j1 rfl (by intro;conv=>lhs;simp (disch:=first|exact Zd|fail) only[j1,ZN,simprocAttr]) (by intro;conv=>lhs;simp (disch:=first|exact Zd|fail) only[j1,ZN,simprocAttr]) (λt=>J.hd (k1.eq_1 ..) ?_) (λa1=> ?_);all_goals try simp only[Prod.forall,unit_all]at a1)|(refine J.joinT j2 rfl (by intro;conv=>lhs;simp (disch:=first|exact Zd|fail) only[j2,ZN,simprocAttr]) (by intro;conv=>lhs;simp (disch:=first|exact Zd|fail) only[j2,ZN,simprocAttr]) (λt=>J.hd (k2.eq_1 ..) ?_) (λa2=> ?_);all_goals try simp only[Prod.forall,unit_all]at a2)|(refine J.joinT j3 rfl (by intro;conv=>lhs;simp (disch:=first|exact Zd|fail) only[j3,ZN,simprocAttr]) (by intro;conv=>lhs;simp (disch:=first|exact Zd|fail) only[j3,ZN,simprocAttr]) (λt=>J.hd (k3.eq_1 ..) ?_) (λa3=> ?_);all_goals try simp only[Prod.forall,unit_all]at a3)|(refine J.joinT j4 rfl (by intro;conv=>lhs;simp (disch:=first|exact Zd|fail) only[j4,ZN,simprocAttr]) (by intro;conv=>lhs;simp (disch:=first|exact Zd|fail) only[j4,ZN,simprocAttr]) (λt=>J.hd (k4.eq_1 ..) ?_) (λa4=> ?_);all_goals try simp only[Prod.forall,unit_all]at a4)|(refine J.joinT j5 rfl (by intro;conv=>lhs;simp (disch:=first|exact Zd|fail) only[j5,ZN,simprocAttr]) (by intro;conv=>lhs;simp (disch:=first|exact Zd|fail) only[j5,ZN,simprocAttr]) (λt=>J.hd (k5.eq_1 ..) ?_) (λa5=> ?_);all_goals try simp only[Prod.forall,unit_all]at a5)|refine J.sqj ?_ |refine J.rqj ?_)|(refine Jn ?_;first|(refine J.joinT j1 rfl (by intro;conv=>lhs;simp (disch:=first|exact Zd|fail) only[j1,ZN,simprocAttr]) (by intro;conv=>lhs;simp (disch:=first|exact Zd|fail) only[j1,ZN,simprocAttr]) (λt=>J.hd (k1.eq_1 ..) ?_) (λa1=> ?_);all_goals try simp only[Prod.forall,unit_all]at a1)|(refine J.joinT j2 rfl (by intro;conv=>lhs;simp (disch:=first|exact Zd|fail) only[j2,ZN,simprocAttr]) (by intro;conv=>lhs;simp (disch:=first|exact Zd|fail) only[j2,ZN,simprocAttr]) (λt=>J.hd (k2.eq_1 ..) ?_) (λa2=> ?_);all_goals try simp only[Prod.forall,unit_all]at a2)|(refine J.joinT j3 rfl (by intro;conv=>lhs;simp (disch:=first|exact Zd|fail) only[j3,ZN,simprocAttr]) (by intro;conv=>lhs;simp (disch:=first|exact Zd|fail) only[j3,ZN,simprocAttr]) (λt=>J.hd (k3.eq_1 ..) ?_) (λa3=> ?_);all_goals try simp only[Prod.forall,unit_all]at a3)|(refine J.joinT j4 rfl (by intro;conv=>lhs;simp (disch:=first|exact Zd|fail) only[j4,ZN,simprocAttr]) (by intro;conv=>lhs;simp (disch:=first|exact Zd|fail) only[j4,ZN,simprocAttr]) (λt=>J.hd (k4.eq_1 ..) ?_) (λa4=> ?_);all_goals try simp only[Prod.forall,unit_all]at a4)|(refine J.joinT j5 rfl (by intro;conv=>lhs;simp (disch:=first|exact Zd|fail) only[j5,ZN,simprocAttr]) (by intro;conv=>lhs;simp (disch:=first|exact Zd|fail) only[j5,ZN,simprocAttr]) (λt=>J.hd (k5.eq_1 ..) ?_) (λa5=> ?_);all_goals try simp only[Prod.forall,unit_all]at a5)|refine J.sqj ?_ |refine J.rqj ?_))|(with_reducible refine J.gl ?_;first|(first|refine J.loopT m1 rfl (by intro;conv=>lhs;simp (disch:=first|exact Zd|fail) only[m1,ZN,simprocAttr]) (by intro;conv=>lhs;simp (disch:=first|exact Zd|fail) only[m1,ZN,simprocAttr]) Zx Zx (λnext k n s=>J.hd (L1.eq_1 ..) ?_)|refine J.loopT m2 rfl (by intro;conv=>lhs;simp (disch:=first|exact Zd|fail) only[m2,ZN,simprocAttr]) (by intro;conv=>lhs;simp (disch:=first|exact Zd|fail) only[m2,ZN,simprocAttr]) Zx Zx (λnext k n s=>J.hd (L2.eq_1 ..) ?_)|refine J.loopT m3 rfl (by intro;conv=>lhs;simp (disch:=first|exact Zd|fail) only[m3,ZN,simprocAttr]) (by intro;conv=>lhs;simp (disch:=first|exact Zd|fail) only[m3,ZN,simprocAttr]) Zx Zx (λnext k n s=>J.hd (L3.eq_1 ..) ?_)|refine J.sql ?_ |refine J.rql ?_)|(refine Jl ?_;first|refine J.loopT m1 rfl (by intro;conv=>lhs;simp (disch:=first|exact Zd|fail) only[m1,ZN,simprocAttr]) (by intro;conv=>lhs;simp (disch:=first|exact Zd|fail) only[m1,ZN,simprocAttr]) Zx Zx (λnext k n s=>J.hd (L1.eq_1 ..) ?_)|refine J.loopT m2 rfl (by intro;conv=>lhs;simp (disch:=first|exact Zd|fail) only[m2,ZN,simprocAttr]) (by intro;conv=>lhs;simp (disch:=first|exact Zd|fail) only[m2,ZN,simprocAttr]) Zx Zx (λnext k n s=>J.hd (L2.eq_1 ..) ?_)|refine J.loopT m3 rfl (by intro;conv=>lhs;simp (disch:=first|exact Zd|fail) only[m3,ZN,simprocAttr]) (by intro;conv=>lhs;simp (disch:=first|exact Zd|fail) only[m3,ZN,simprocAttr]) Zx Zx (λnext k n s=>J.hd (L3.eq_1 ..) ?_)|refine J.sql ?_ |refine J.rql ?_))|(refine Jg ?_;first|((with_reducible apply a1) <;> first|exact()|exact Zx)|((with_reducible apply a2) <;> first|exact()|exact Zx)|((with_reducible apply a3) <;> first|exact()|exact Zx)|((with_reducible apply a4) <;> first|exact()|exact Zx)|((with_reducible apply a5) <;> first|exact()|exact Zx)|((with_reducible apply b1) <;> first|exact()|exact Zx)|((with_reducible apply b2) <;> first|exact()|exact Zx)|((with_reducible apply b3) <;> first|exact()|exact Zx)|((with_reducible apply b4) <;> first|exact()|exact Zx)|((with_reducible apply b5) <;> first|exact()|exact Zx)|refine J.nextT (by assumption) Zx Zx)):p:=h
open Aw (d17)
def d17_at:=by have h:=tabL Aw.d17.eq_1;simp only[AllAt,Nat.zero_add,Nat.reduceAdd]at h;exact h
theorem i17:finfo Tryz.prog 17 d17=some ⟨bodyOf Tryz.f17,[.tmp 2],[4]⟩:=finfo_at Tryz.func17 rfl (by kernel_rfl) (by kernel_rfl)
def e17:Bool->AV:=λr=> .v (.bool r)
set_option maxHeartbeats 20000000 in
theorem w17(cp:CallP)(fu:Nat)(x1:Int):J (go Tryz.prog noC cp noI 0 [] d17 fu (fin Tryz.prog [.tmp 2] [4]) (bodyOf Tryz.f17) (initE 0 [.v (.int .i64 x1)]) [] []) (moves_Has fu x1) e17:=by
 unfold moves_Has e17
 have da:=d17_at
 conv=>arg 1;simp only[bodyOf,Tryz.f17]
 have z0:=d17_at
 exact Wk
theorem ok17(fu:Nat)(x1:Int)(r)(h:moves_Has fu x1=some r):PureOK Tryz.prog 17 [.v (.int .i64 x1)] (e17 r):=pureT mixed [] (ids:=[]) rfl (by decide) i17 (C:=noC) (ci:=λcp=>noI) (λcp ok=>noI_ok) (λcp H=>w17 cp fu x1) h
open Aw (d57)
def d57_at:=by have h:=tabL Aw.d57.eq_1;simp only[AllAt,Nat.zero_add,Nat.reduceAdd]at h;exact h
theorem i57:finfo Tryz.prog 57 d57=some ⟨bodyOf Tryz.f57,[.tmp 2],[3]⟩:=finfo_at Tryz.func57 rfl (by kernel_rfl) (by kernel_rfl)
def e57:Int->AV:=λr=> .v (.int .i64 r)
set_option maxHeartbeats 20000000 in
theorem w57(cp:CallP)(fu:Nat)(x1:Int):J (go Tryz.prog noC cp noI 0 [] d57 fu (fin Tryz.prog [.tmp 2] [3]) (bodyOf Tryz.f57) (initE 0 [.v (.int .i64 x1)]) [] []) (tens_Width fu x1) e57:=by
 unfold tens_Width e57
 have da:=d57_at
 conv=>arg 1;simp only[bodyOf,Tryz.f57]
 have z0:=d57_at
 exact Wk
theorem ok57(fu:Nat)(x1:Int)(r)(h:tens_Width fu x1=some r):PureOK Tryz.prog 57 [.v (.int .i64 x1)] (e57 r):=pureT mixed [] (ids:=[]) rfl (by decide) i57 (C:=noC) (ci:=λcp=>noI) (λcp ok=>noI_ok) (λcp H=>w57 cp fu x1) h
open Aw (d31)
def d31_at:=by have h:=tabL Aw.d31.eq_1;simp only[AllAt,Nat.zero_add,Nat.reduceAdd]at h;exact h
theorem i31:finfo Tryz.prog 31 d31=some ⟨bodyOf Tryz.f31,[.tmp 2],[4]⟩:=finfo_at Tryz.func31 rfl (by kernel_rfl) (by kernel_rfl)
def e31:Bool->AV:=λr=> .v (.bool r)
structure K57 (fu:Nat) (cp:CallP):Prop where
 ap: ∀ {a0:Int} {r},tens_Width fu a0=some r->cp 57 [.v (.int .i64 a0)]=some (.v (.int .i64 r))
noncomputable def C57(fu:Nat):Cm Tryz.prog Int Int:=⟨57,λt=>[.v (.int .i64 t)],λt=>tens_Width fu t,e57,λt b h=>ok57 fu t b h,Zi⟩
theorem u57{fu:Nat}{cp:CallP}(H:Hit cp (C57 fu).ct):K57 fu cp:=⟨λ {a0 r} h=>(C57 fu).at H a0 r h⟩
set_option maxHeartbeats 20000000 in
theorem w31(cp:CallP)(fu:Nat)(x1:Int)(H1:K57 fu cp):J (go Tryz.prog noC cp noI 0 [] d31 fu (fin Tryz.prog [.tmp 2] [4]) (bodyOf Tryz.f31) (initE 0 [.v (.int .i64 x1)]) [] []) (tens_known fu x1) e31:=by
 unfold tens_known e31
 have da:=d31_at
 conv=>arg 1;simp only[bodyOf,Tryz.f31]
 have z0:=d31_at
 exact Wk
theorem ok31(fu:Nat)(x1:Int)(r)(h:tens_known fu x1=some r):PureOK Tryz.prog 31 [.v (.int .i64 x1)] (e31 r):=pureT mixed [(C57 fu).ct] (ids:=[57]) rfl (by decide) i31 (C:=noC) (ci:=λcp=>noI) (λcp ok=>noI_ok) (λcp H=>w31 cp fu x1 (u57 H.1)) h
open Aw (d112)
def d112_at:=by have h:=tabL Aw.d112.eq_1;simp only[AllAt,Nat.zero_add,Nat.reduceAdd]at h;exact h
theorem i112:finfo Tryz.prog 112 d112=some ⟨bodyOf Tryz.f112,[.tmp 4],[3]⟩:=finfo_at Tryz.func112 rfl (by kernel_rfl) (by kernel_rfl)
def e112:Int->AV:=λr=> .v (.int .i64 r)
set_option maxHeartbeats 20000000 in
theorem w112(cp:CallP)(fu:Nat)(x1:List Int)(p1:Int→Option Bool)(fv_p1:FuncId)(ca_p1:List AV)(cap_p1:Capt ca_p1)(hp_p1: ∀ (y0:Int) r,p1 y0=some r→cp fv_p1 ((.v (.int .i64 y0))::ca_p1)=some (.v (.bool r))):J (go Tryz.prog noC cp noI 0 [] d112 fu (fin Tryz.prog [.tmp 4] [3]) (bodyOf Tryz.f112) (initE 0 [.arr x1.length (lm (ik .i64) x1),.fn fv_p1 [] ca_p1]) [] []) (slices_IndexFunc_int fu x1 p1) e112:=by
 unfold slices_IndexFunc_int e112
 have da:=d112_at
 have c4_p1:=λg=>(cap_p1.1 g).1;have c3_p1:=λg=>(cap_p1.1 g).2.1;have b4_p1:=λg=>(cap_p1.1 g).2.2.1;have b3_p1:=λg=>(cap_p1.1 g).2.2.2;have nm_p1:=cap_p1.2
 conv=>arg 1;simp (disch:=first|exact Zd|fail) only[bodyOf,Tryz.f112,ZZ,d112_at,simprocAttr,c4_p1,c3_p1,b4_p1,b3_p1,nm_p1]
 refine J.eq go_seq ?_
 conv=>arg 1;simp (disch:=first|exact Zd|fail) only[ZZ,d112_at,simprocAttr,c4_p1,c3_p1,b4_p1,b3_p1,nm_p1]
 unfold slices_IndexFunc_int.W1
 refine J.loop (λ(s:Int)=>([(0,.arr x1.length (lm (ik .i64) x1)),(1,.fn fv_p1 [] ca_p1),(7,.v (.int .i64 (x1.length:Int))),(8,.v (.int .i64 s))],[])) (λnext s=>slices_IndexFunc_int.L1 fu p1 x1 next s) (s0:=0) ?_ ?_ ?_
 ·exact Ze
 ·exact Zh
 rintro nx1 k1 hn1 x4
 show J _ (slices_IndexFunc_int.L1 fu p1 x1 nx1 x4) _
 unfold slices_IndexFunc_int.L1
 conv=>arg 1;simp (disch:=first|exact Zd|fail) only[ZZ,d112_at,simprocAttr,c4_p1,c3_p1,b4_p1,b3_p1,nm_p1]
 refine J.eq go_seq ?_
 conv=>arg 1;simp (disch:=first|exact Zd|fail) only[ZZ,d112_at,simprocAttr,c4_p1,c3_p1,b4_p1,b3_p1,nm_p1]
 refine J.ite (λh1=> ?_) (λh1=> ?_)
 ·have h1':=decide_eq_true h1
  have h1'':decide ((x1.length:Int)<=x4)=false:=decide_eq_false (by omega)
  conv=>arg 1;simp (disch:=first|exact Zd|fail) only[ZZ,d112_at,simprocAttr,c4_p1,c3_p1,b4_p1,b3_p1,nm_p1,h1'',h1']
  refine J.eq ret_seq ?_
  refine J.eq go_seq ?_
  refine J.at λx7 h2 h3 h4=> ?_
  refine J.bind λx8 h5=> ?_
  have e_h5:=hp_p1 _ _ h5
  try simp only[NN,NT,LN,simprocAttr,DT]at e_h5
  conv=>arg 1;simp (disch:=first|exact Zd|fail) only[ZZ,d112_at,simprocAttr,c4_p1,c3_p1,b4_p1,b3_p1,nm_p1,h1'',h1',lm_ik h4,e_h5]
  refine J.ite (λh6=> ?_) (λh6=> ?_)
  ·have h6':x8=true:=h6
   refine J.some ?_
   simp (maxSteps:=20000000) (disch:=first|exact Zd|fail) only[ZZ,d112_at,simprocAttr,c4_p1,c3_p1,b4_p1,b3_p1,nm_p1,h1'',h1',lm_ik h4,e_h5,h6',FN]
  ·have h6':x8=false:=Bool.eq_false_iff.2 h6
   conv=>arg 1;simp (disch:=first|exact Zd|fail) only[ZZ,d112_at,simprocAttr,c4_p1,c3_p1,b4_p1,b3_p1,nm_p1,h1'',h1',lm_ik h4,e_h5,h6']
   refine J.eq ret_seq ?_
   conv=>arg 1;simp (disch:=first|exact Zd|fail) only[ZZ,d112_at,simprocAttr,c4_p1,c3_p1,b4_p1,b3_p1,nm_p1,h1'',h1',lm_ik h4,e_h5,h6']
   refine J.next (s:=wk .i64 (x4+1)) hn1 ?_ ?_
   ·exact Ze
   ·exact Zh
 ·have h1':=decide_eq_false h1
  have h1'':decide ((x1.length:Int)<=x4)=true:=decide_eq_true (by omega)
  conv=>arg 1;simp (disch:=first|exact Zd|fail) only[ZZ,d112_at,simprocAttr,c4_p1,c3_p1,b4_p1,b3_p1,nm_p1,h1'',h1']
  refine J.eq ret_seq ?_
  refine J.some ?_
  simp (maxSteps:=20000000) (disch:=first|exact Zd|fail) only[ZZ,d112_at,simprocAttr,c4_p1,c3_p1,b4_p1,b3_p1,nm_p1,h1'',h1',FN]
noncomputable def t112(fu:Nat)(x1:List Int)(p1:Int->Option Bool)(fv_p1:FuncId)(ca_p1:List AV):CallP:=orE fv_p1 (mkC (λ(t:Int)=>((.v (.int .i64 t))::ca_p1:List AV)) (λt=>p1 t) (λr=> .v (.bool r))) (noP)
theorem t112_ok(fu:Nat)(x1:List Int)(p1:Int->Option Bool)(fv_p1:FuncId)(ca_p1:List AV)(cap_p1:Capt ca_p1)(hp_p1: ∀ (y0:Int) r,p1 y0=some r->PureOK Tryz.prog fv_p1 ((.v (.int .i64 y0))::ca_p1) (.v (.bool r))):CpOK Tryz.prog (t112 fu x1 p1 fv_p1 ca_p1):=orE_ok (noP_ok) (mkC_ok (λt b h=>hp_p1 t b h))
theorem ok112(fu:Nat)(x1:List Int)(p1:Int→Option Bool)(fv_p1:FuncId)(ca_p1:List AV)(cap_p1:Capt ca_p1)(hp_p1: ∀ (y0:Int) r,p1 y0=some r→PureOK Tryz.prog fv_p1 ((.v (.int .i64 y0))::ca_p1) (.v (.bool r)))(r)(h:slices_IndexFunc_int fu x1 p1=some r):PureOK Tryz.prog 112 [.arr x1.length (lm (ik .i64) x1),.fn fv_p1 [] ca_p1] (e112 r):=
  pure_J mixed (cp:=t112 fu x1 p1 fv_p1 ca_p1) (t112_ok fu x1 p1 fv_p1 ca_p1 cap_p1 hp_p1) noI_ok i112 (w112 _ fu x1 p1 fv_p1 ca_p1 cap_p1 (λy0 r h=>orE_hit (mkC_at (a:=y0) (by intro a b h;first|(exact rfl)|(simp only[INJ,IJ]at h;first|exact h|(simp_all [Prod.ext_iff]))) h))) h
open Aw (d58)
def d58_at:=by have h:=tabL Aw.d58.eq_1;simp only[AllAt,Nat.zero_add,Nat.reduceAdd]at h;exact h
theorem i58:finfo Tryz.prog 58 d58=some ⟨bodyOf Tryz.f58,[.tmp 4],[4]⟩:=finfo_at Tryz.func58 rfl (by kernel_rfl) (by kernel_rfl)
def e58:Bool->AV:=λr=> .v (.bool r)
set_option maxHeartbeats 20000000 in
theorem w58(cp:CallP)(fu:Nat)(x1:List Int)(p1:Int→Option Bool)(fv_p1:FuncId)(ca_p1:List AV)(cap_p1:Capt ca_p1)(hp_p1: ∀ (y0:Int) r,p1 y0=some r→cp fv_p1 ((.v (.int .i64 y0))::ca_p1)=some (.v (.bool r)))(H112_0: ∀ (a0:List Int) r,slices_IndexFunc_int fu a0 p1=some r→cp 112 [.arr a0.length (lm (ik .i64) a0),.fn fv_p1 [] ca_p1]=some (.v (.int .i64 r))):J (go Tryz.prog noC cp noI 0 [] d58 fu (fin Tryz.prog [.tmp 4] [4]) (bodyOf Tryz.f58) (initE 0 [.arr x1.length (lm (ik .i64) x1),.fn fv_p1 [] ca_p1]) [] []) (slices_ContainsFunc_int fu x1 p1) e58:=by
 unfold slices_ContainsFunc_int e58
 have da:=d58_at
 have c4_p1:=λg=>(cap_p1.1 g).1;have c3_p1:=λg=>(cap_p1.1 g).2.1;have b4_p1:=λg=>(cap_p1.1 g).2.2.1;have b3_p1:=λg=>(cap_p1.1 g).2.2.2;have nm_p1:=cap_p1.2
 refine J.bind λx2 h1=> ?_
 have e_h1:=H112_0 _ _ h1
 try simp only[NN,NT,LN,simprocAttr,DT]at e_h1
 refine J.some ?_
 simp (maxSteps:=20000000) (disch:=first|exact Zd|fail) only[bodyOf,Tryz.f58,ZZ,d58_at,simprocAttr,c4_p1,c3_p1,b4_p1,b3_p1,nm_p1,e_h1,FN]
noncomputable def t58(fu:Nat)(x1:List Int)(p1:Int->Option Bool)(fv_p1:FuncId)(ca_p1:List AV):CallP:=orE 112 (mkC (λ(t:List Int)=>([.arr t.length (lm (ik .i64) t),.fn fv_p1 [] ca_p1]:List AV)) (λt=>slices_IndexFunc_int fu t p1) e112) (orE fv_p1 (mkC (λ(t:Int)=>((.v (.int .i64 t))::ca_p1:List AV)) (λt=>p1 t) (λr=> .v (.bool r))) (noP))
theorem t58_ok(fu:Nat)(x1:List Int)(p1:Int->Option Bool)(fv_p1:FuncId)(ca_p1:List AV)(cap_p1:Capt ca_p1)(hp_p1: ∀ (y0:Int) r,p1 y0=some r->PureOK Tryz.prog fv_p1 ((.v (.int .i64 y0))::ca_p1) (.v (.bool r))):CpOK Tryz.prog (t58 fu x1 p1 fv_p1 ca_p1):=orE_ok (orE_ok (noP_ok) (mkC_ok (λt b h=>hp_p1 t b h))) (mkC_ok (λt b h=>ok112 fu t p1 fv_p1 ca_p1 cap_p1 hp_p1 b h))
theorem ok58(fu:Nat)(x1:List Int)(p1:Int→Option Bool)(fv_p1:FuncId)(ca_p1:List AV)(cap_p1:Capt ca_p1)(hp_p1: ∀ (y0:Int) r,p1 y0=some r→PureOK Tryz.prog fv_p1 ((.v (.int .i64 y0))::ca_p1) (.v (.bool r)))(r)(h:slices_ContainsFunc_int fu x1 p1=some r):PureOK Tryz.prog 58 [.arr x1.length (lm (ik .i64) x1),.fn fv_p1 [] ca_p1] (e58 r):=
  pure_J mixed (cp:=t58 fu x1 p1 fv_p1 ca_p1) (t58_ok fu x1 p1 fv_p1 ca_p1 cap_p1 hp_p1) noI_ok i58 (w58 _ fu x1 p1 fv_p1 ca_p1 cap_p1 (λy0 r h=>orE_skip (λhfv=>mkC_none (by intro t h;simp at h)) (orE_hit (mkC_at (a:=y0) (by intro a b h;first|(exact rfl)|(simp only[INJ,IJ]at h;first|exact h|(simp_all [Prod.ext_iff]))) h))) (λa0 r h=>orE_hit (mkC_at (a:=a0) (by intro a b h;first|(exact rfl)|(simp only[INJ,IJ]at h;first|exact h|(simp_all [Prod.ext_iff]))) h))) h
open Aw (d59)
def d59_at:=by have h:=tabL Aw.d59.eq_1;simp only[AllAt,Nat.zero_add,Nat.reduceAdd]at h;exact h
theorem i59:finfo Tryz.prog 59 d59=some ⟨bodyOf Tryz.f59,[.tmp 2],[4]⟩:=finfo_at Tryz.func59 rfl (by kernel_rfl) (by kernel_rfl)
def e59:Bool->AV:=λr=> .v (.bool r)
set_option maxHeartbeats 20000000 in
theorem w59(cp:CallP)(fu:Nat)(x1:Int):J (go Tryz.prog noC cp noI 0 [] d59 fu (fin Tryz.prog [.tmp 2] [4]) (bodyOf Tryz.f59) (initE 0 [.v (.int .i64 x1)]) [] []) (shape_Size_1 fu x1) e59:=by
 unfold shape_Size_1 e59
 have da:=d59_at
 conv=>arg 1;simp only[bodyOf,Tryz.f59]
 have z0:=d59_at
 exact Wk
theorem ok59(fu:Nat)(x1:Int)(r)(h:shape_Size_1 fu x1=some r):PureOK Tryz.prog 59 [.v (.int .i64 x1)] (e59 r):=pureT mixed [] (ids:=[]) rfl (by decide) i59 (C:=noC) (ci:=λcp=>noI) (λcp ok=>noI_ok) (λcp H=>w59 cp fu x1) h
open Aw (d60)
def d60_at:=by have h:=tabL Aw.d60.eq_1;simp only[AllAt,Nat.zero_add,Nat.reduceAdd]at h;exact h
theorem i60:finfo Tryz.prog 60 d60=some ⟨bodyOf Tryz.f60,[.tmp 2],[4]⟩:=finfo_at Tryz.func60 rfl (by kernel_rfl) (by kernel_rfl)
def e60:Bool->AV:=λr=> .v (.bool r)
set_option maxHeartbeats 20000000 in
theorem w60(cp:CallP)(fu:Nat)(x1:Int):J (go Tryz.prog noC cp noI 0 [] d60 fu (fin Tryz.prog [.tmp 2] [4]) (bodyOf Tryz.f60) (initE 0 [.v (.int .i64 x1)]) [] []) (shape_Size_2 fu x1) e60:=by
 unfold shape_Size_2 e60
 have da:=d60_at
 conv=>arg 1;simp only[bodyOf,Tryz.f60]
 have z0:=d60_at
 exact Wk
theorem ok60(fu:Nat)(x1:Int)(r)(h:shape_Size_2 fu x1=some r):PureOK Tryz.prog 60 [.v (.int .i64 x1)] (e60 r):=pureT mixed [] (ids:=[]) rfl (by decide) i60 (C:=noC) (ci:=λcp=>noI) (λcp ok=>noI_ok) (λcp H=>w60 cp fu x1) h
open Aw (d113)
def d113_at:=by have h:=tabL Aw.d113.eq_1;simp only[AllAt,Nat.zero_add,Nat.reduceAdd]at h;exact h
theorem i113:finfo Tryz.prog 113 d113=some ⟨bodyOf Tryz.f113,[.tmp 4],[3]⟩:=finfo_at Tryz.func113 rfl (by kernel_rfl) (by kernel_rfl)
def e113:Int->AV:=λr=> .v (.int .i64 r)
def slices_Index_int.m1:LJ 1 4 Unit Int:=⟨λr s e=>[(0,er e 0),(1,er e 1),(7,er e 7),(8,.v (.int .i64 s))],λr s h=>[]⟩
set_option maxHeartbeats 20000000 in
open slices_Index_int in
theorem w113(cp:CallP)(fu:Nat)(x1:List Int)(x2:Int):J (go Tryz.prog noC cp noI 0 [] d113 fu (fin Tryz.prog [.tmp 4] [3]) (bodyOf Tryz.f113) (initE 0 [.arr x1.length (lm (ik .i64) x1),.v (.int .i64 x2)]) [] []) (slices_Index_int fu x1 x2) e113:=by
 unfold slices_Index_int e113
 have da:=d113_at
 conv=>arg 1;simp only[bodyOf,Tryz.f113]
 have z0:=d113_at
 exact Wk
theorem ok113(fu:Nat)(x1:List Int)(x2:Int)(r)(h:slices_Index_int fu x1 x2=some r):PureOK Tryz.prog 113 [.arr x1.length (lm (ik .i64) x1),.v (.int .i64 x2)] (e113 r):=pureT mixed [] (ids:=[]) rfl (by decide) i113 (C:=noC) (ci:=λcp=>noI) (λcp ok=>noI_ok) (λcp H=>w113 cp fu x1 x2) h
open Aw (d61)
def d61_at:=by have h:=tabL Aw.d61.eq_1;simp only[AllAt,Nat.zero_add,Nat.reduceAdd]at h;exact h
theorem i61:finfo Tryz.prog 61 d61=some ⟨bodyOf Tryz.f61,[.tmp 4],[4]⟩:=finfo_at Tryz.func61 rfl (by kernel_rfl) (by kernel_rfl)
def e61:Bool->AV:=λr=> .v (.bool r)
structure K113 (fu:Nat) (cp:CallP):Prop where
 ap: ∀ {a0:List Int} {a1:Int} {r},slices_Index_int fu a0 a1=some r->cp 113 [.arr a0.length (lm (ik .i64) a0),.v (.int .i64 a1)]=some (.v (.int .i64 r))
noncomputable def C113(fu:Nat):Cm Tryz.prog ((List Int)×Int) Int:=⟨113,λt=>[.arr t.1.length (lm (ik .i64) t.1),.v (.int .i64 t.2)],λt=>slices_Index_int fu t.1 t.2,e113,λt b h=>ok113 fu t.1 t.2 b h,Zi⟩
theorem u113{fu:Nat}{cp:CallP}(H:Hit cp (C113 fu).ct):K113 fu cp:=⟨λ {a0 a1 r} h=>(C113 fu).at H (a0,a1) r h⟩
set_option maxHeartbeats 20000000 in
theorem w61(cp:CallP)(fu:Nat)(x1:List Int)(x2:Int)(H1:K113 fu cp):J (go Tryz.prog noC cp noI 0 [] d61 fu (fin Tryz.prog [.tmp 4] [4]) (bodyOf Tryz.f61) (initE 0 [.arr x1.length (lm (ik .i64) x1),.v (.int .i64 x2)]) [] []) (slices_Contains_int fu x1 x2) e61:=by
 unfold slices_Contains_int e61
 have da:=d61_at
 conv=>arg 1;simp only[bodyOf,Tryz.f61]
 have z0:=d61_at
 exact Wk
theorem ok61(fu:Nat)(x1:List Int)(x2:Int)(r)(h:slices_Contains_int fu x1 x2=some r):PureOK Tryz.prog 61 [.arr x1.length (lm (ik .i64) x1),.v (.int .i64 x2)] (e61 r):=pureT mixed [(C113 fu).ct] (ids:=[113]) rfl (by decide) i61 (C:=noC) (ci:=λcp=>noI) (λcp ok=>noI_ok) (λcp H=>w61 cp fu x1 x2 (u113 H.1)) h
open Aw (d32)
def d32_at:=by have h:=tabL Aw.d32.eq_1;simp only[AllAt,Nat.zero_add,Nat.reduceAdd]at h;exact h
theorem i32:finfo Tryz.prog 32 d32=some ⟨bodyOf Tryz.f32,[.tmp 2,.tmp 3],[3,30]⟩:=finfo_at Tryz.func32 rfl (by kernel_rfl) (by kernel_rfl)
def e32:(Int×Int)->AV:=λr=> .tuple [.v (.int .i64 r.1),.v (.int .i64 r.2)]
set_option maxHeartbeats 20000000 in
theorem w32(cp:CallP)(fu:Nat)(x1:List Int)(H58_0: ∀ (a0:List Int) r,slices_ContainsFunc_int fu a0 (fun y0=>shape_Size_1 fu y0)=some r→cp 58 [.arr a0.length (lm (ik .i64) a0),.fn 59 [] []]=some (.v (.bool r)))(H58_1: ∀ (a0:List Int) r,slices_ContainsFunc_int fu a0 (fun y0=>shape_Size_2 fu y0)=some r→cp 58 [.arr a0.length (lm (ik .i64) a0),.fn 60 [] []]=some (.v (.bool r)))(H61_0: ∀ (a0:List Int) (a1:Int) r,slices_Contains_int fu a0 a1=some r→cp 61 [.arr a0.length (lm (ik .i64) a0),.v (.int .i64 a1)]=some (.v (.bool r))):J (go Tryz.prog noC cp noI 0 [] d32 fu (fin Tryz.prog [.tmp 2,.tmp 3] [3,30]) (bodyOf Tryz.f32) (initE 0 [.arr x1.length (lm (ik .i64) x1)]) [] []) (shape_Size fu x1) e32:=by
 unfold shape_Size e32
 have da:=d32_at
 conv=>arg 1;simp (disch:=first|exact Zd|fail) only[bodyOf,Tryz.f32,ZZ,d32_at,simprocAttr]
 refine J.eq go_seq ?_
 refine J.bind λx2 h1=> ?_
 have e_h1:=H58_0 _ _ h1
 try simp only[NN,NT,LN,simprocAttr,DT]at e_h1
 refine Jc ?_
 refine J.ite (λh2=> ?_) (λh2=> ?_)
 ·have h2':x2=true:=h2
  refine J.some ?_
  exact Js
 ·have h2':x2=false:=Bool.eq_false_iff.2 h2
  refine Jc ?_
  refine J.eq ret_seq ?_
  refine J.joinS (λ(t:Unit)=>([(0,.arr x1.length (lm (ik .i64) x1))],[])) (λt=>shape_Size.k1 fu x1) ?_ (λhj1=> ?_)
  ·rintro⟨⟩
   show J _ (shape_Size.k1 fu x1) _
   unfold shape_Size.k1
   refine J.eq go_seq ?_
   refine J.bind λx3 h3=> ?_
   have e_h3:=H61_0 _ _ _ h3
   try simp only[NN,NT,LN,simprocAttr,DT]at e_h3
   refine Jc ?_
   refine J.ite (λh4=> ?_) (λh4=> ?_)
   ·have h4':x3=true:=h4
    refine J.some ?_
    exact Js
   ·have h4':x3=false:=Bool.eq_false_iff.2 h4
    refine Jc ?_
    refine J.eq ret_seq ?_
    refine Jc ?_
    refine J.eq go_seq ?_
    refine Jc ?_
    unfold shape_Size.W1
    refine J.loop (λ(s:Int×Int)=>([(4,.v (.int .i64 s.1)),(18,.arr x1.length (lm (ik .i64) x1)),(19,.v (.int .i64 (x1.length:Int))),(20,.v (.int .i64 s.2))],[])) (λnext s=>shape_Size.L1 fu x1 (λx5 x6=>next (x5,x6)) s.1 s.2) (s0:=(1,0)) ?_ ?_ ?_
    ·exact Ze
    ·exact Zh
    rintro next k1 hn1 ⟨x5,x6⟩
    let nx1:Int->Int->Option (Int×Int):=(λx5 x6=>next (x5,x6))
    show J _ (shape_Size.L1 fu x1 nx1 x5 x6) _
    unfold shape_Size.L1
    refine Jc ?_
    refine J.eq go_seq ?_
    refine Jc ?_
    refine J.ite (λh5=> ?_) (λh5=> ?_)
    ·have h5':=decide_eq_true h5
     have h5'':decide ((x1.length:Int)<=x6)=false:=decide_eq_false (by omega)
     refine Jc ?_
     refine J.eq ret_seq ?_
     refine J.eq go_seq ?_
     refine J.at λx8 h6 h7 h8=> ?_
     conv=>arg 1;simp (disch:=first|exact Zd|fail) only[ZZ,d32_at,simprocAttr,e_h1,h2',e_h3,h4',h5'',h5',lm_ik h8]
     refine J.eq go_seq ?_
     refine J.chk λh9=> ?_
     conv=>arg 1;simp (disch:=first|exact Zd|fail) only[ZZ,d32_at,simprocAttr,e_h1,h2',e_h3,h4',h5'',h5',lm_ik h8]
     refine J.ite (λh10=> ?_) (λh10=> ?_)
     ·have h10':=decide_eq_true h10
      have h10'':decide (x8<=(wk .i64 (Int.tdiv 4096 x5)))=false:=decide_eq_false (by omega)
      refine J.some ?_
      simp (maxSteps:=20000000) (disch:=first|exact Zd|fail) only[ZZ,d32_at,simprocAttr,e_h1,h2',e_h3,h4',h5'',h5',lm_ik h8,h10'',h10',FN]
     ·have h10':=decide_eq_false h10
      have h10'':decide (x8<=(wk .i64 (Int.tdiv 4096 x5)))=true:=decide_eq_true (by omega)
      conv=>arg 1;simp (disch:=first|exact Zd|fail) only[ZZ,d32_at,simprocAttr,e_h1,h2',e_h3,h4',h5'',h5',lm_ik h8,h10'',h10']
      refine J.eq ret_seq ?_
      conv=>arg 1;simp (disch:=first|exact Zd|fail) only[ZZ,d32_at,simprocAttr,e_h1,h2',e_h3,h4',h5'',h5',lm_ik h8,h10'',h10']
      refine J.eq ret_seq ?_
      conv=>arg 1;simp (disch:=first|exact Zd|fail) only[ZZ,d32_at,simprocAttr,e_h1,h2',e_h3,h4',h5'',h5',lm_ik h8,h10'',h10']
      refine J.next (s:=(wk .i64 (x5*x8),wk .i64 (x6+1))) hn1 ?_ ?_
      ·exact Ze
      ·exact Zh
    ·have h5':=decide_eq_false h5
     have h5'':decide ((x1.length:Int)<=x6)=true:=decide_eq_true (by omega)
     refine Jc ?_
     refine J.eq ret_seq ?_
     refine J.some ?_
     exact Js
  ·refine J.hd jn_at ?_
   refine J.eq go_seq ?_
   refine Jc ?_
   refine J.ite (λh11=> ?_) (λh11=> ?_)
   ·have h11':=decide_eq_true h11
    have h11'':decide ((x1.length:Int)<=8)=false:=decide_eq_false (by omega)
    refine Jc ?_
    refine J.eq ret_seq ?_
    refine J.some ?_
    exact Js
   ·have h11':=decide_eq_false h11
    have h11'':decide ((x1.length:Int)<=8)=true:=decide_eq_true (by omega)
    refine J.bind λx9 h12=> ?_
    have e_h12:=H58_1 _ _ h12
    try simp only[NN,NT,LN,simprocAttr,DT]at e_h12
    refine Jc ?_
    refine J.eq ret_seq ?_
    refine Jc ?_
    refine J.ite (λh13=> ?_) (λh13=> ?_)
    ·have h13':x9=true:=h13
     refine J.some ?_
     exact Js
    ·have h13':x9=false:=Bool.eq_false_iff.2 h13
     refine Jc ?_
     refine J.jmp (t:=()) hj1 ?_ ?_
     ·exact Ze
     ·exact Zh
noncomputable def t32(fu:Nat):CallP:=orE 58 (mkC (λ(t:List Int)=>([.arr t.length (lm (ik .i64) t),.fn 59 [] []]:List AV)) (λt=>slices_ContainsFunc_int fu t (λy0=>shape_Size_1 fu y0)) e58) (orE 58 (mkC (λ(t:List Int)=>([.arr t.length (lm (ik .i64) t),.fn 60 [] []]:List AV)) (λt=>slices_ContainsFunc_int fu t (λy0=>shape_Size_2 fu y0)) e58) (orE 61 (mkC (λ(t:(List Int)×Int)=>([.arr t.1.length (lm (ik .i64) t.1),.v (.int .i64 t.2)]:List AV)) (λt=>slices_Contains_int fu t.1 t.2) e61) (noP)))
theorem t32_ok(fu:Nat):CpOK Tryz.prog (t32 fu):=orE_ok (orE_ok (orE_ok (noP_ok) (mkC_ok (λt b h=>ok61 fu t.1 t.2 b h))) (mkC_ok (λt b h=>ok58 fu t (λy0=>shape_Size_2 fu y0) 60 [] Capt.nil (λy0 r h=>ok60 fu y0 r h) b h))) (mkC_ok (λt b h=>ok58 fu t (λy0=>shape_Size_1 fu y0) 59 [] Capt.nil (λy0 r h=>ok59 fu y0 r h) b h))
theorem ok32(fu:Nat)(x1:List Int)(r)(h:shape_Size fu x1=some r):PureOK Tryz.prog 32 [.arr x1.length (lm (ik .i64) x1)] (e32 r):=
  pure_J mixed (cp:=t32 fu) (t32_ok fu) noI_ok i32 (w32 _ fu x1 (λa0 r h=>orE_hit (mkC_at (a:=a0) (by intro a b h;first|(exact rfl)|(simp only[INJ,IJ]at h;first|exact h|(simp_all [Prod.ext_iff]))) h)) (λa0 r h=>orE_next (mkC_none (by intro t h;simp at h)) (orE_hit (mkC_at (a:=a0) (by intro a b h;first|(exact rfl)|(simp only[INJ,IJ]at h;first|exact h|(simp_all [Prod.ext_iff]))) h))) (λa0 a1 r h=>orE_miss (by decide) (orE_miss (by decide) (orE_hit (mkC_at (a:=(a0,a1)) (by intro a b h;first|(exact rfl)|(simp only[INJ,IJ]at h;first|exact h|(simp_all [Prod.ext_iff]))) h))))) h
open Aw (d18)
def d18_at:=by have h:=tabL Aw.d18.eq_1;simp only[AllAt,Nat.zero_add,Nat.reduceAdd]at h;exact h
theorem i18:finfo Tryz.prog 18 d18=some ⟨bodyOf Tryz.f18,[.tmp 2],[30]⟩:=finfo_at Tryz.func18 rfl (by kernel_rfl) (by kernel_rfl)
def e18:Int->AV:=λr=> .v (.int .i64 r)
structure K31 (fu:Nat) (cp:CallP):Prop where
 ap: ∀ {a0:Int} {r},tens_known fu a0=some r->cp 31 [.v (.int .i64 a0)]=some (.v (.bool r))
noncomputable def C31(fu:Nat):Cm Tryz.prog Int Bool:=⟨31,λt=>[.v (.int .i64 t)],λt=>tens_known fu t,e31,λt b h=>ok31 fu t b h,Zi⟩
theorem u31{fu:Nat}{cp:CallP}(H:Hit cp (C31 fu).ct):K31 fu cp:=⟨λ {a0 r} h=>(C31 fu).at H a0 r h⟩
structure K32 (fu:Nat) (cp:CallP):Prop where
 ap: ∀ {a0:List Int} {r},shape_Size fu a0=some r->cp 32 [.arr a0.length (lm (ik .i64) a0)]=some (.tuple [.v (.int .i64 r.1),.v (.int .i64 r.2)])
noncomputable def C32(fu:Nat):Cm Tryz.prog (List Int) (Int×Int):=⟨32,λt=>[.arr t.length (lm (ik .i64) t)],λt=>shape_Size fu t,e32,λt b h=>ok32 fu t b h,Zi⟩
theorem u32{fu:Nat}{cp:CallP}(H:Hit cp (C32 fu).ct):K32 fu cp:=⟨λ {a0 r} h=>(C32 fu).at H a0 r h⟩
def tens_Check.j1:LJ 1 24 Unit Int:=⟨λr t e=>[(1,er e 1),(3,er e 3),(5,.v (.int .i64 t))],λr t h=>[((0,1,0),hr h (0,1,0))]⟩
set_option maxHeartbeats 20000000 in
open tens_Check in
theorem w18(cp:CallP)(fu:Nat)(x1:T_Tensor)(H1:K31 fu cp)(H2:K32 fu cp):J (go Tryz.prog noC cp noI 0 [] d18 fu (fin Tryz.prog [.tmp 2] [30]) (bodyOf Tryz.f18) (initE 0 [.agg (c_T_Tensor x1)]) [] []) (tens_Check fu x1) e18:=by
 unfold tens_Check e18
 have da:=d18_at
 conv=>arg 1;simp only[bodyOf,Tryz.f18]
 have z0:=d18_at
 exact Wk
theorem ok18(fu:Nat)(x1:T_Tensor)(r)(h:tens_Check fu x1=some r):PureOK Tryz.prog 18 [.agg (c_T_Tensor x1)] (e18 r):=pureT mixed [(C31 fu).ct,(C32 fu).ct] (ids:=[31,32]) rfl (by decide) i18 (C:=noC) (ci:=λcp=>noI) (λcp ok=>noI_ok) (λcp H=>w18 cp fu x1 (u31 H.1) (u32 H.2.1)) h
open Aw (d62)
def d62_at:=by have h:=tabL Aw.d62.eq_1;simp only[AllAt,Nat.zero_add,Nat.reduceAdd]at h;exact h
theorem i62:finfo Tryz.prog 62 d62=some ⟨bodyOf Tryz.f62,[.tmp 2],[22]⟩:=finfo_at Tryz.func62 rfl (by kernel_rfl) (by kernel_rfl)
def e62:(List Int)->AV:=λr=> .fresh 1 r.length (lm (ik .i64) r)
set_option maxHeartbeats 20000000 in
theorem w62(cp:CallP)(fu:Nat)(x1:List Int):J (go Tryz.prog noC cp noI 0 [] d62 fu (fin Tryz.prog [.tmp 2] [22]) (bodyOf Tryz.f62) (initE 0 [.arr x1.length (lm (ik .i64) x1)]) [] []) (tens_own_int fu x1) e62:=by
 unfold tens_own_int e62
 have da:=d62_at
 conv=>arg 1;simp only[bodyOf,Tryz.f62]
 have z0:=d62_at
 exact Wk
theorem ok62(fu:Nat)(x1:List Int)(r)(h:tens_own_int fu x1=some r):PureOK Tryz.prog 62 [.arr x1.length (lm (ik .i64) x1)] (e62 r):=pureT mixed [] (ids:=[]) rfl (by decide) i62 (C:=noC) (ci:=λcp=>noI) (λcp ok=>noI_ok) (λcp H=>w62 cp fu x1) h
open Aw (d63)
def d63_at:=by have h:=tabL Aw.d63.eq_1;simp only[AllAt,Nat.zero_add,Nat.reduceAdd]at h;exact h
theorem i63:finfo Tryz.prog 63 d63=some ⟨bodyOf Tryz.f63,[.tmp 2],[23]⟩:=finfo_at Tryz.func63 rfl (by kernel_rfl) (by kernel_rfl)
def e63:(List Int)->AV:=λr=> .fresh 1 r.length (lm (ik .u32) r)
set_option maxHeartbeats 20000000 in
theorem w63(cp:CallP)(fu:Nat)(x1:List Int):J (go Tryz.prog noC cp noI 0 [] d63 fu (fin Tryz.prog [.tmp 2] [23]) (bodyOf Tryz.f63) (initE 0 [.arr x1.length (lm (ik .u32) x1)]) [] []) (tens_own_uint32 fu x1) e63:=by
 unfold tens_own_uint32 e63
 have da:=d63_at
 conv=>arg 1;simp only[bodyOf,Tryz.f63]
 have z0:=d63_at
 exact Wk
theorem ok63(fu:Nat)(x1:List Int)(r)(h:tens_own_uint32 fu x1=some r):PureOK Tryz.prog 63 [.arr x1.length (lm (ik .u32) x1)] (e63 r):=pureT mixed [] (ids:=[]) rfl (by decide) i63 (C:=noC) (ci:=λcp=>noI) (λcp ok=>noI_ok) (λcp H=>w63 cp fu x1) h
open Aw (d64)
def d64_at:=by have h:=tabL Aw.d64.eq_1;simp only[AllAt,Nat.zero_add,Nat.reduceAdd]at h;exact h
theorem i64:finfo Tryz.prog 64 d64=some ⟨bodyOf Tryz.f64,[.tmp 2],[24]⟩:=finfo_at Tryz.func64 rfl (by kernel_rfl) (by kernel_rfl)
def e64:(List Int)->AV:=λr=> .fresh 1 r.length (lm (ik .i64) r)
set_option maxHeartbeats 20000000 in
theorem w64(cp:CallP)(fu:Nat)(x1:List Int):J (go Tryz.prog noC cp noI 0 [] d64 fu (fin Tryz.prog [.tmp 2] [24]) (bodyOf Tryz.f64) (initE 0 [.arr x1.length (lm (ik .i64) x1)]) [] []) (tens_own_int64 fu x1) e64:=by
 unfold tens_own_int64 e64
 have da:=d64_at
 conv=>arg 1;simp only[bodyOf,Tryz.f64]
 have z0:=d64_at
 exact Wk
theorem ok64(fu:Nat)(x1:List Int)(r)(h:tens_own_int64 fu x1=some r):PureOK Tryz.prog 64 [.arr x1.length (lm (ik .i64) x1)] (e64 r):=pureT mixed [] (ids:=[]) rfl (by decide) i64 (C:=noC) (ci:=λcp=>noI) (λcp ok=>noI_ok) (λcp H=>w64 cp fu x1) h
open Aw (d65)
def d65_at:=by have h:=tabL Aw.d65.eq_1;simp only[AllAt,Nat.zero_add,Nat.reduceAdd]at h;exact h
theorem i65:finfo Tryz.prog 65 d65=some ⟨bodyOf Tryz.f65,[.tmp 2],[25]⟩:=finfo_at Tryz.func65 rfl (by kernel_rfl) (by kernel_rfl)
def e65:(List Bool)->AV:=λr=> .fresh 1 r.length (lm (bk) r)
set_option maxHeartbeats 20000000 in
theorem w65(cp:CallP)(fu:Nat)(x1:List Bool):J (go Tryz.prog noC cp noI 0 [] d65 fu (fin Tryz.prog [.tmp 2] [25]) (bodyOf Tryz.f65) (initE 0 [.arr x1.length (lm (bk) x1)]) [] []) (tens_own_bool fu x1) e65:=by
 unfold tens_own_bool e65
 have da:=d65_at
 conv=>arg 1;simp only[bodyOf,Tryz.f65]
 have z0:=d65_at
 exact Wk
theorem ok65(fu:Nat)(x1:List Bool)(r)(h:tens_own_bool fu x1=some r):PureOK Tryz.prog 65 [.arr x1.length (lm (bk) x1)] (e65 r):=pureT mixed [] (ids:=[]) rfl (by decide) i65 (C:=noC) (ci:=λcp=>noI) (λcp ok=>noI_ok) (λcp H=>w65 cp fu x1) h
open Aw (d33)
def d33_at:=by have h:=tabL Aw.d33.eq_1;simp only[AllAt,Nat.zero_add,Nat.reduceAdd]at h;exact h
theorem i33:finfo Tryz.prog 33 d33=some ⟨bodyOf Tryz.f33,[.cell 2 27],[27]⟩:=finfo_at Tryz.func33 rfl (by kernel_rfl) (by kernel_rfl)
def e33:T_Tensor->AV:=λr=> .agg [.v (.int .i64 r.fType),.fresh 1 r.fDims.length (lm (ik .i64) r.fDims),.fresh 1 r.fF.length (lm (ik .u32) r.fF),.fresh 1 r.fI.length (lm (ik .i64) r.fI),.fresh 1 r.fB.length (lm (bk) r.fB)]
structure K62 (fu:Nat) (cp:CallP):Prop where
 ap: ∀ {a0:List Int} {r},tens_own_int fu a0=some r->cp 62 [.arr a0.length (lm (ik .i64) a0)]=some (.fresh 1 r.length (lm (ik .i64) r))
noncomputable def C62(fu:Nat):Cm Tryz.prog (List Int) (List Int):=⟨62,λt=>[.arr t.length (lm (ik .i64) t)],λt=>tens_own_int fu t,e62,λt b h=>ok62 fu t b h,Zi⟩
theorem u62{fu:Nat}{cp:CallP}(H:Hit cp (C62 fu).ct):K62 fu cp:=⟨λ {a0 r} h=>(C62 fu).at H a0 r h⟩
structure K63 (fu:Nat) (cp:CallP):Prop where
 ap: ∀ {a0:List Int} {r},tens_own_uint32 fu a0=some r->cp 63 [.arr a0.length (lm (ik .u32) a0)]=some (.fresh 1 r.length (lm (ik .u32) r))
noncomputable def C63(fu:Nat):Cm Tryz.prog (List Int) (List Int):=⟨63,λt=>[.arr t.length (lm (ik .u32) t)],λt=>tens_own_uint32 fu t,e63,λt b h=>ok63 fu t b h,Zi⟩
theorem u63{fu:Nat}{cp:CallP}(H:Hit cp (C63 fu).ct):K63 fu cp:=⟨λ {a0 r} h=>(C63 fu).at H a0 r h⟩
structure K64 (fu:Nat) (cp:CallP):Prop where
 ap: ∀ {a0:List Int} {r},tens_own_int64 fu a0=some r->cp 64 [.arr a0.length (lm (ik .i64) a0)]=some (.fresh 1 r.length (lm (ik .i64) r))
noncomputable def C64(fu:Nat):Cm Tryz.prog (List Int) (List Int):=⟨64,λt=>[.arr t.length (lm (ik .i64) t)],λt=>tens_own_int64 fu t,e64,λt b h=>ok64 fu t b h,Zi⟩
theorem u64{fu:Nat}{cp:CallP}(H:Hit cp (C64 fu).ct):K64 fu cp:=⟨λ {a0 r} h=>(C64 fu).at H a0 r h⟩
structure K65 (fu:Nat) (cp:CallP):Prop where
 ap: ∀ {a0:List Bool} {r},tens_own_bool fu a0=some r->cp 65 [.arr a0.length (lm (bk) a0)]=some (.fresh 1 r.length (lm (bk) r))
noncomputable def C65(fu:Nat):Cm Tryz.prog (List Bool) (List Bool):=⟨65,λt=>[.arr t.length (lm (bk) t)],λt=>tens_own_bool fu t,e65,λt b h=>ok65 fu t b h,Zi⟩
theorem u65{fu:Nat}{cp:CallP}(H:Hit cp (C65 fu).ct):K65 fu cp:=⟨λ {a0 r} h=>(C65 fu).at H a0 r h⟩
set_option maxHeartbeats 20000000 in
theorem w33(cp:CallP)(fu:Nat)(x1:T_Tensor)(H1:K62 fu cp)(H2:K63 fu cp)(H3:K64 fu cp)(H4:K65 fu cp):J (go Tryz.prog noC cp noI 0 [] d33 fu (fin Tryz.prog [.cell 2 27] [27]) (bodyOf Tryz.f33) (initE 0 [.agg (c_T_Tensor x1)]) [] []) (tens_Copy fu x1) e33:=by
 unfold tens_Copy e33
 have da:=d33_at
 conv=>arg 1;simp only[bodyOf,Tryz.f33]
 have z0:=d33_at
 exact Wk
theorem ok33(fu:Nat)(x1:T_Tensor)(r)(h:tens_Copy fu x1=some r):PureOK Tryz.prog 33 [.agg (c_T_Tensor x1)] (e33 r):=pureT mixed [(C62 fu).ct,(C63 fu).ct,(C64 fu).ct,(C65 fu).ct] (ids:=[62,63,64,65]) rfl (by decide) i33 (C:=noC) (ci:=λcp=>noI) (λcp ok=>noI_ok) (λcp H=>w33 cp fu x1 (u62 H.1) (u63 H.2.1) (u64 H.2.2.1) (u65 H.2.2.2.1)) h
def d114:List (Nat×List Nat):=[(0,[2]),(0,[]),(0,[0,3,4])]
def d114_at:=by have h:=tabL d114.eq_1;simp only[AllAt,Nat.zero_add,Nat.reduceAdd]at h;exact h
theorem i114:finfo Tryz.prog 114 d114=some ⟨bodyOf Tryz.f114,[.tmp 2],[33]⟩:=finfo_at Tryz.func114 rfl (by kernel_rfl) (by kernel_rfl)
def e114:Int->AV:=λr=> .v (.int .u32 r)
set_option maxHeartbeats 20000000 in
theorem w114(cp:CallP)(fu:Nat)(x1:Int):J (go Tryz.prog noC cp noI 0 [] d114 fu (fin Tryz.prog [.tmp 2] [33]) (bodyOf Tryz.f114) (initE 0 [.v (.int .u32 x1)]) [] []) (soft_Abs fu x1) e114:=by
 unfold soft_Abs e114
 have da:=d114_at
 conv=>arg 1;simp only[bodyOf,Tryz.f114]
 have z0:=d114_at
 exact Wk
theorem ok114(fu:Nat)(x1:Int)(r)(h:soft_Abs fu x1=some r):PureOK Tryz.prog 114 [.v (.int .u32 x1)] (e114 r):=pureT mixed [] (ids:=[]) rfl (by decide) i114 (C:=noC) (ci:=λcp=>noI) (λcp ok=>noI_ok) (λcp H=>w114 cp fu x1) h
def d66:List (Nat×List Nat):=[(0,[2]),(0,[]),(0,[0,3,4,5])]
def d66_at:=by have h:=tabL d66.eq_1;simp only[AllAt,Nat.zero_add,Nat.reduceAdd]at h;exact h
theorem i66:finfo Tryz.prog 66 d66=some ⟨bodyOf Tryz.f66,[.tmp 2],[4]⟩:=finfo_at Tryz.func66 rfl (by kernel_rfl) (by kernel_rfl)
def e66:Bool->AV:=λr=> .v (.bool r)
structure K114 (fu:Nat) (cp:CallP):Prop where
 ap: ∀ {a0:Int} {r},soft_Abs fu a0=some r->cp 114 [.v (.int .u32 a0)]=some (.v (.int .u32 r))
noncomputable def C114(fu:Nat):Cm Tryz.prog Int Int:=⟨114,λt=>[.v (.int .u32 t)],λt=>soft_Abs fu t,e114,λt b h=>ok114 fu t b h,Zi⟩
theorem u114{fu:Nat}{cp:CallP}(H:Hit cp (C114 fu).ct):K114 fu cp:=⟨λ {a0 r} h=>(C114 fu).at H a0 r h⟩
set_option maxHeartbeats 20000000 in
theorem w66(cp:CallP)(fu:Nat)(x1:Int)(H1:K114 fu cp):J (go Tryz.prog noC cp noI 0 [] d66 fu (fin Tryz.prog [.tmp 2] [4]) (bodyOf Tryz.f66) (initE 0 [.v (.int .u32 x1)]) [] []) (soft_NaN fu x1) e66:=by
 unfold soft_NaN e66
 have da:=d66_at
 conv=>arg 1;simp only[bodyOf,Tryz.f66]
 have z0:=d66_at
 exact Wk
theorem ok66(fu:Nat)(x1:Int)(r)(h:soft_NaN fu x1=some r):PureOK Tryz.prog 66 [.v (.int .u32 x1)] (e66 r):=pureT mixed [(C114 fu).ct] (ids:=[114]) rfl (by decide) i66 (C:=noC) (ci:=λcp=>noI) (λcp ok=>noI_ok) (λcp H=>w66 cp fu x1 (u114 H.1)) h
def d34:List (Nat×List Nat):=[(0,[2]),(0,[]),(0,[3]),(0,[]),(0,[]),(0,[]),(0,[0,5])]
def d34_at:=by have h:=tabL d34.eq_1;simp only[AllAt,Nat.zero_add,Nat.reduceAdd]at h;exact h
theorem i34:finfo Tryz.prog 34 d34=some ⟨bodyOf Tryz.f34,[.tmp 2],[33]⟩:=finfo_at Tryz.func34 rfl (by kernel_rfl) (by kernel_rfl)
def e34:Int->AV:=λr=> .v (.int .u32 r)
structure K66 (fu:Nat) (cp:CallP):Prop where
 ap: ∀ {a0:Int} {r},soft_NaN fu a0=some r->cp 66 [.v (.int .u32 a0)]=some (.v (.bool r))
noncomputable def C66(fu:Nat):Cm Tryz.prog Int Bool:=⟨66,λt=>[.v (.int .u32 t)],λt=>soft_NaN fu t,e66,λt b h=>ok66 fu t b h,Zi⟩
theorem u66{fu:Nat}{cp:CallP}(H:Hit cp (C66 fu).ct):K66 fu cp:=⟨λ {a0 r} h=>(C66 fu).at H a0 r h⟩
set_option maxHeartbeats 20000000 in
theorem w34(cp:CallP)(fu:Nat)(x1:Int)(H1:K66 fu cp):J (go Tryz.prog noC cp noI 0 [] d34 fu (fin Tryz.prog [.tmp 2] [33]) (bodyOf Tryz.f34) (initE 0 [.v (.int .u32 x1)]) [] []) (soft_Canon fu x1) e34:=by
 unfold soft_Canon e34
 have da:=d34_at
 conv=>arg 1;simp only[bodyOf,Tryz.f34]
 have z0:=d34_at
 exact Wk
theorem ok34(fu:Nat)(x1:Int)(r)(h:soft_Canon fu x1=some r):PureOK Tryz.prog 34 [.v (.int .u32 x1)] (e34 r):=pureT mixed [(C66 fu).ct] (ids:=[66]) rfl (by decide) i34 (C:=noC) (ci:=λcp=>noI) (λcp ok=>noI_ok) (λcp H=>w34 cp fu x1 (u66 H.1)) h
open Aw (d19)
def d19_at:=by have h:=tabL Aw.d19.eq_1;simp only[AllAt,Nat.zero_add,Nat.reduceAdd]at h;exact h
theorem i19:finfo Tryz.prog 19 d19=some ⟨bodyOf Tryz.f19,[.cell 2 27],[27]⟩:=finfo_at Tryz.func19 rfl (by kernel_rfl) (by kernel_rfl)
def e19:T_Tensor->AV:=λr=> .agg [.v (.int .i64 r.fType),.fresh 1 r.fDims.length (lm (ik .i64) r.fDims),.fresh 1 r.fF.length (lm (ik .u32) r.fF),.fresh 1 r.fI.length (lm (ik .i64) r.fI),.fresh 1 r.fB.length (lm (bk) r.fB)]
structure K33 (fu:Nat) (cp:CallP):Prop where
 ap: ∀ {a0:T_Tensor} {r},tens_Copy fu a0=some r->cp 33 [.agg (c_T_Tensor a0)]=some (.agg [.v (.int .i64 r.fType),.fresh 1 r.fDims.length (lm (ik .i64) r.fDims),.fresh 1 r.fF.length (lm (ik .u32) r.fF),.fresh 1 r.fI.length (lm (ik .i64) r.fI),.fresh 1 r.fB.length (lm (bk) r.fB)])
noncomputable def C33(fu:Nat):Cm Tryz.prog T_Tensor T_Tensor:=⟨33,λt=>[.agg (c_T_Tensor t)],λt=>tens_Copy fu t,e33,λt b h=>ok33 fu t b h,Zi⟩
theorem u33{fu:Nat}{cp:CallP}(H:Hit cp (C33 fu).ct):K33 fu cp:=⟨λ {a0 r} h=>(C33 fu).at H a0 r h⟩
structure K34 (fu:Nat) (cp:CallP):Prop where
 ap: ∀ {a0:Int} {r},soft_Canon fu a0=some r->cp 34 [.v (.int .u32 a0)]=some (.v (.int .u32 r))
noncomputable def C34(fu:Nat):Cm Tryz.prog Int Int:=⟨34,λt=>[.v (.int .u32 t)],λt=>soft_Canon fu t,e34,λt b h=>ok34 fu t b h,Zi⟩
theorem u34{fu:Nat}{cp:CallP}(H:Hit cp (C34 fu).ct):K34 fu cp:=⟨λ {a0 r} h=>(C34 fu).at H a0 r h⟩
def tens_Canon.m1:LJ 1 6 Unit ((List Int)×Int):=⟨λr s e=>[(2,er e 2),(3,er e 3),(9,.own (0,7,1) 0 s.1.length s.1.length),(10,er e 10),(11,.v (.int .i64 s.2))],λr s h=>[((0,2,0),hr h (0,2,0)),((0,7,0),hr h (0,7,0)),((0,7,1),.sl true true 1 s.1.length (lm (ik .u32) s.1)),((0,7,2),hr h (0,7,2)),((0,7,3),hr h (0,7,3)),((0,3,0),bs (hr h (0,3,0)) 2 (.own (0,7,1) 0 s.1.length s.1.length))]⟩
set_option maxHeartbeats 20000000 in
open tens_Canon in
theorem w19(cp:CallP)(fu:Nat)(x1:T_Tensor)(H1:K33 fu cp)(H2:K34 fu cp):J (go Tryz.prog noC cp noI 0 [] d19 fu (fin Tryz.prog [.cell 2 27] [27]) (bodyOf Tryz.f19) (initE 0 [.agg (c_T_Tensor x1)]) [] []) (tens_Canon fu x1) e19:=by
 unfold tens_Canon e19
 have da:=d19_at
 conv=>arg 1;simp only[bodyOf,Tryz.f19]
 have z0:=d19_at
 exact Wk
theorem ok19(fu:Nat)(x1:T_Tensor)(r)(h:tens_Canon fu x1=some r):PureOK Tryz.prog 19 [.agg (c_T_Tensor x1)] (e19 r):=pureT mixed [(C33 fu).ct,(C34 fu).ct] (ids:=[33,34]) rfl (by decide) i19 (C:=noC) (ci:=λcp=>noI) (λcp ok=>noI_ok) (λcp H=>w19 cp fu x1 (u33 H.1) (u34 H.2.1)) h
def d39:List (Nat×List Nat):=[(0,[2]),(0,[]),(0,[3]),(0,[]),(0,[]),(0,[]),(0,[0,5,6,7])]
def d39_at:=And.intro (show d39.getD 0 (0,[])=(0,[2])from rfl)<|And.intro (show d39.getD 1 (0,[])=(0,[])from rfl)<|And.intro (show d39.getD 2 (0,[])=(0,[3])from rfl)<|And.intro (show d39.getD 3 (0,[])=(0,[])from rfl)<|And.intro (show d39.getD 4 (0,[])=(0,[])from rfl)<|And.intro (show d39.getD 5 (0,[])=(0,[])from rfl)<|(show d39.getD 6 (0,[])=(0,[0,5,6,7])from rfl)
theorem i39:finfo Tryz.prog 39 d39=some ⟨bodyOf Tryz.f39,[.tmp 2],[22]⟩:=finfo_at Tryz.func39 rfl (by kernel_rfl) (by kernel_rfl)
def e39:List Int->AV:=λr=> .fresh 1 r.length (lm (ik .i64) r)
theorem ok39(fu:Nat)(x1:List Int)(r)(h:slices_Clone_int fu x1=some r):PureOK Tryz.prog 39 [.arr x1.length (lm (ik .i64) x1)] (e39 r):=by
  unfold slices_Clone_int chk at h
  split at h
  · rename_i hs;injection h with h;subst h
    cases x1 with
    | nil=>
      refine PureOK.arr0 λa c=> ?_
      refine pure_J mixed (C:=noC) (cp:=noP) (n:=0) noP_ok noI_ok i39 (s:=some []) (enc:=e39) ?_ rfl
      refine J.some ?_
      unfold e39
      cases a with
      | none=>
        conv=>lhs;simp (disch:=first|exact Zd|fail) only[bodyOf,Tryz.f39,ZZ,d39_at,simprocAttr,abin_sl tv22]
        rw[go_seq]
        simp (disch:=first|exact Zd|fail) only[ZZ,d39_at,simprocAttr,abin_sl tv22,FF,NN,NT]
      | some a=>
        conv=>lhs;simp (disch:=first|exact Zd|fail) only[bodyOf,Tryz.f39,ZZ,d39_at,simprocAttr,abin_sl tv22]
        rw[go_seq]
        conv=>lhs;simp (disch:=first|exact Zd|fail) only[ZZ,d39_at,simprocAttr,abin_sl tv22]
        rw[ret_seq]
        simp (disch:=first|exact Zd|fail) only[ZZ,d39_at,simprocAttr,abin_sl tv22,FF,NN,NT]
    | cons y x1=>
      refine pure_J mixed (C:=noC) (cp:=noP) (n:=0) noP_ok noI_ok i39 (s:=some (y::x1)) (enc:=e39) ?_ rfl
      refine J.some ?_
      have ha: ∀ xs,abin Tryz.prog .eql 22 (.arr (y::x1).length xs) (.v (.slice none 0 0))=some (.v (.bool false)):=λxs=>abin_an (op:= .eql) tv22 (by simp)
      generalize y::x1=l at hs ha ⊢
      unfold e39
      conv=>lhs;simp (disch:=first|exact Zd|fail) only[bodyOf,Tryz.f39,ZZ,d39_at,simprocAttr,abin_sl tv22,ha]
      rw[go_seq]
      conv=>lhs;simp (disch:=first|exact Zd|fail) only[ZZ,d39_at,simprocAttr,abin_sl tv22,ha]
      rw[ret_seq]
      simp (disch:=first|exact Zd|fail) only[ZZ,d39_at,simprocAttr,abin_sl tv22,FF,NN,NT,lm_length]
  · cases h
open Aw (d21)
def d21_at:=by have h:=tabL Aw.d21.eq_1;simp only[AllAt,Nat.zero_add,Nat.reduceAdd]at h;exact h
theorem i21:finfo Tryz.prog 21 d21=some ⟨bodyOf Tryz.f21,[.tmp 2],[53]⟩:=finfo_at Tryz.func21 rfl (by kernel_rfl) (by kernel_rfl)
def e21:(List T_Val)->AV:=λr=> .arr r.length (fm c_T_Val r)
structure K39 (fu:Nat) (cp:CallP):Prop where
 ap: ∀ {a0:List Int} {r},slices_Clone_int fu a0=some r->cp 39 [.arr a0.length (lm (ik .i64) a0)]=some (.fresh 1 r.length (lm (ik .i64) r))
noncomputable def C39(fu:Nat):Cm Tryz.prog (List Int) (List Int):=⟨39,λt=>[.arr t.length (lm (ik .i64) t)],λt=>slices_Clone_int fu t,e39,λt b h=>ok39 fu t b h,Zi⟩
theorem u39{fu:Nat}{cp:CallP}(H:Hit cp (C39 fu).ct):K39 fu cp:=⟨λ {a0 r} h=>(C39 fu).at H a0 r h⟩
def ewise_Vals.m1:LJ 1 6 Unit ((List T_Val)×Int):=⟨λr s e=>[(3,.own (0,3,77) 0 s.1.length s.1.length),(7,er e 7),(8,er e 8),(9,.v (.int .i64 s.2))],λr s h=>[((0,3,77),.sl true true 8 s.1.length (fm c_T_Val s.1))]⟩
set_option maxHeartbeats 20000000 in
open ewise_Vals in
theorem w21(cp:CallP)(fu:Nat)(x1:List T_Tensor)(H1:K39 fu cp)(H2:K33 fu cp):J (go Tryz.prog noC cp noI 0 [] d21 fu (finS Tryz.prog [.tmp 2] [53]) (bodyOf Tryz.f21) (initE 0 [.arr x1.length (fm c_T_Tensor x1)]) [] []) (ewise_Vals fu x1) e21:=by
 unfold ewise_Vals e21
 have da:=d21_at
 conv=>arg 1;simp only[bodyOf,Tryz.f21]
 have z0:=d21_at
 have z1:=SE
 exact Wk
theorem ok21(fu:Nat)(x1:List T_Tensor)(r)(h:ewise_Vals fu x1=some r):PureOK Tryz.prog 21 [.arr x1.length (fm c_T_Tensor x1)] (e21 r):=pureST mixed [(C39 fu).ct,(C33 fu).ct] (ids:=[39,33]) rfl (by decide) i21 (C:=noC) (ci:=λcp=>noI) (λcp ok=>noI_ok) (λcp H=>w21 cp fu x1 (u39 H.1) (u33 H.2.1)) h
def e67:(Int×Int×Int×Int)->AV:=λr=> .tuple [.v (.int .i64 r.1),.v (.int .i64 r.2.1),.v (.int .i64 r.2.2.1),.v (.int .i64 r.2.2.2)]
theorem ok67(fu:Nat)(x1:Int)(r)(h:ops_Arity fu x1=some r):PureOK Tryz.prog 67 [.v (.int .i64 x1)] (e67 r):=by
  unfold ops_Arity at h
  by_cases hx:x1=51
  · rw[spl_pos hx]at h;injection h with h;subst h
    obtain rfl:=hx
    exact closed67_51
  rw[spl_neg hx]at h;clear hx
  by_cases hx:x1=52
  · unfold chk at h;rw[if_pos hx]at h;injection h with h;subst h
    obtain rfl:=hx
    exact closed67_52
  unfold chk at h;rw[if_neg hx]at h;cases h
open Aw (d84)
def d84_at:=by have h:=tabL Aw.d84.eq_1;simp only[AllAt,Nat.zero_add,Nat.reduceAdd]at h;exact h
theorem i84:finfo Tryz.prog 84 d84=some ⟨bodyOf Tryz.f84,[.cell 4 62],[62]⟩:=finfo_at Tryz.func84 rfl (by kernel_rfl) (by kernel_rfl)
def e84:T_Val->AV:=λr=> .agg [.v (.int .i64 r.fType),.arr r.fDims.length (lm (ik .i64) r.fDims),.v (.bool r.fConst),.v (.int .i64 r.fT.fType),.arr r.fT.fDims.length (lm (ik .i64) r.fT.fDims),.arr r.fT.fF.length (lm (ik .u32) r.fT.fF),.arr r.fT.fI.length (lm (ik .i64) r.fT.fI),.arr r.fT.fB.length (lm (bk) r.fT.fB)]
set_option maxHeartbeats 20000000 in
theorem w84(cp:CallP)(fu:Nat)(x1:T_infer_ask)(x2:Int):J (go Tryz.prog noC cp noI 0 [] d84 fu (finS Tryz.prog [.cell 4 62] [62]) (bodyOf Tryz.f84) (initE 0 [.agg (c_T_infer_ask x1),.v (.int .i64 x2)]) [] []) (infer_ask_val fu x1 x2) e84:=by
 unfold infer_ask_val e84
 have da:=d84_at
 conv=>arg 1;simp only[bodyOf,Tryz.f84]
 have z0:=d84_at
 have z1:=SE
 exact Wk
theorem ok84(fu:Nat)(x1:T_infer_ask)(x2:Int)(r)(h:infer_ask_val fu x1 x2=some r):PureOK Tryz.prog 84 [.agg (c_T_infer_ask x1),.v (.int .i64 x2)] (e84 r):=pureST mixed [] (ids:=[]) rfl (by decide) i84 (C:=noC) (ci:=λcp=>noI) (λcp ok=>noI_ok) (λcp H=>w84 cp fu x1 x2) h
open Aw (d68)
def d68_at:=by have h:=tabL Aw.d68.eq_1;simp only[AllAt,Nat.zero_add,Nat.reduceAdd]at h;exact h
theorem i68:finfo Tryz.prog 68 d68=some ⟨bodyOf Tryz.f68,[.tmp 4],[4]⟩:=finfo_at Tryz.func68 rfl (by kernel_rfl) (by kernel_rfl)
def e68:Bool->AV:=λr=> .v (.bool r)
structure K84 (fu:Nat) (cp:CallP):Prop where
 ap: ∀ {a0:T_infer_ask} {a1:Int} {r},infer_ask_val fu a0 a1=some r->cp 84 [.agg (c_T_infer_ask a0),.v (.int .i64 a1)]=some (.agg [.v (.int .i64 r.fType),.arr r.fDims.length (lm (ik .i64) r.fDims),.v (.bool r.fConst),.v (.int .i64 r.fT.fType),.arr r.fT.fDims.length (lm (ik .i64) r.fT.fDims),.arr r.fT.fF.length (lm (ik .u32) r.fT.fF),.arr r.fT.fI.length (lm (ik .i64) r.fT.fI),.arr r.fT.fB.length (lm (bk) r.fT.fB)])
noncomputable def C84(fu:Nat):Cm Tryz.prog (T_infer_ask×Int) T_Val:=⟨84,λt=>[.agg (c_T_infer_ask t.1),.v (.int .i64 t.2)],λt=>infer_ask_val fu t.1 t.2,e84,λt b h=>ok84 fu t.1 t.2 b h,Zi⟩
theorem u84{fu:Nat}{cp:CallP}(H:Hit cp (C84 fu).ct):K84 fu cp:=⟨λ {a0 a1 r} h=>(C84 fu).at H (a0,a1) r h⟩
set_option maxHeartbeats 20000000 in
theorem w68(cp:CallP)(fu:Nat)(x1:T_infer_ask)(x2:Int)(H1:K84 fu cp):J (go Tryz.prog noC cp noI 0 [] d68 fu (fin Tryz.prog [.tmp 4] [4]) (bodyOf Tryz.f68) (initE 0 [.agg (c_T_infer_ask x1),.v (.int .i64 x2)]) [] []) (infer_ask_has fu x1 x2) e68:=by
 unfold infer_ask_has e68
 have da:=d68_at
 conv=>arg 1;simp only[bodyOf,Tryz.f68]
 have z0:=d68_at
 exact Wk
theorem ok68(fu:Nat)(x1:T_infer_ask)(x2:Int)(r)(h:infer_ask_has fu x1 x2=some r):PureOK Tryz.prog 68 [.agg (c_T_infer_ask x1),.v (.int .i64 x2)] (e68 r):=pureT mixed [(C84 fu).ct] (ids:=[84]) rfl (by decide) i68 (C:=noC) (ci:=λcp=>noI) (λcp ok=>noI_ok) (λcp H=>w68 cp fu x1 x2 (u84 H.1)) h
open Aw (d35)
def d35_at:=by have h:=tabL Aw.d35.eq_1;simp only[AllAt,Nat.zero_add,Nat.reduceAdd]at h;exact h
theorem i35:finfo Tryz.prog 35 d35=some ⟨bodyOf Tryz.f35,[.tmp 2],[4]⟩:=finfo_at Tryz.func35 rfl (by kernel_rfl) (by kernel_rfl)
def e35:Bool->AV:=λr=> .v (.bool r)
structure K67 (fu:Nat) (cp:CallP):Prop where
 ap: ∀ {a0:Int} {r},ops_Arity fu a0=some r->cp 67 [.v (.int .i64 a0)]=some (.tuple [.v (.int .i64 r.1),.v (.int .i64 r.2.1),.v (.int .i64 r.2.2.1),.v (.int .i64 r.2.2.2)])
noncomputable def C67(fu:Nat):Cm Tryz.prog Int (Int×Int×Int×Int):=⟨67,λt=>[.v (.int .i64 t)],λt=>ops_Arity fu t,e67,λt b h=>ok67 fu t b h,Zi⟩
theorem u67{fu:Nat}{cp:CallP}(H:Hit cp (C67 fu).ct):K67 fu cp:=⟨λ {a0 r} h=>(C67 fu).at H a0 r h⟩
structure K68 (fu:Nat) (cp:CallP):Prop where
 ap: ∀ {a0:T_infer_ask} {a1:Int} {r},infer_ask_has fu a0 a1=some r->cp 68 [.agg (c_T_infer_ask a0),.v (.int .i64 a1)]=some (.v (.bool r))
noncomputable def C68(fu:Nat):Cm Tryz.prog (T_infer_ask×Int) Bool:=⟨68,λt=>[.agg (c_T_infer_ask t.1),.v (.int .i64 t.2)],λt=>infer_ask_has fu t.1 t.2,e68,λt b h=>ok68 fu t.1 t.2 b h,Zi⟩
theorem u68{fu:Nat}{cp:CallP}(H:Hit cp (C68 fu).ct):K68 fu cp:=⟨λ {a0 a1 r} h=>(C68 fu).at H (a0,a1) r h⟩
def infer_ask_complete.m1:LJ 1 10 Unit Int:=⟨λr s e=>[(1,er e 1),(49,er e 49),(50,.v (.int .i64 s))],λr s h=>[((0,1,0),hr h (0,1,0))]⟩
def infer_ask_complete.j1:LJ 1 8 Unit Unit:=⟨λr t e=>[(1,er e 1),(3,er e 3)],λr t h=>[((0,1,0),hr h (0,1,0))]⟩
set_option maxHeartbeats 20000000 in
open infer_ask_complete in
theorem w35(cp:CallP)(fu:Nat)(x1:T_infer_ask)(H1:K67 fu cp)(H2:K68 fu cp):J (go Tryz.prog noC cp noI 0 [] d35 fu (fin Tryz.prog [.tmp 2] [4]) (bodyOf Tryz.f35) (initE 0 [.agg (c_T_infer_ask x1)]) [] []) (infer_ask_complete fu x1) e35:=by
 unfold infer_ask_complete e35
 have da:=d35_at
 conv=>arg 1;simp only[bodyOf,Tryz.f35]
 have z0:=d35_at
 exact Wk
theorem ok35(fu:Nat)(x1:T_infer_ask)(r)(h:infer_ask_complete fu x1=some r):PureOK Tryz.prog 35 [.agg (c_T_infer_ask x1)] (e35 r):=pureT mixed [(C67 fu).ct,(C68 fu).ct] (ids:=[67,68]) rfl (by decide) i35 (C:=noC) (ci:=λcp=>noI) (λcp ok=>noI_ok) (λcp H=>w35 cp fu x1 (u67 H.1) (u68 H.2.1)) h
open Aw (d116)
def d116_at:=by have h:=tabL Aw.d116.eq_1;simp only[AllAt,Nat.zero_add,Nat.reduceAdd]at h;exact h
theorem i116:finfo Tryz.prog 116 d116=some ⟨bodyOf Tryz.f116,[.tmp 2],[9]⟩:=finfo_at Tryz.func116 rfl (by kernel_rfl) (by kernel_rfl)
def e116:ByteArray->AV:=λr=> .v (.string r)
def infer_sorts.j5:LJ 5 210 Int Unit:=⟨λr t e=>[(3,er e 3),(4,er e 4),(13,er e 13),(18,er e 18),(31,er e 31),(36,er e 36),(45,.v (.bool (decide (r=51))))],λr t h=>[]⟩
def infer_sorts.j4:LJ 4 170 Int Unit:=⟨λr t e=>[(3,er e 3),(4,er e 4),(13,er e 13),(18,er e 18),(31,er e 31),(36,.v (.bool (decide (r=64))))],λr t h=>[]⟩
def infer_sorts.j3:LJ 3 114 Int Unit:=⟨λr t e=>[(3,er e 3),(4,er e 4),(13,er e 13),(18,.v (.bool (decide (r=43))))],λr t h=>[]⟩
def infer_sorts.j2:LJ 2 62 Int Unit:=⟨λr t e=>[(3,er e 3),(4,er e 4),(13,.v (.bool (decide (r=25))))],λr t h=>[]⟩
def infer_sorts.j1:LJ 1 42 Int Unit:=⟨λr t e=>[(3,er e 3),(4,.v (.bool (decide (r=71))))],λr t h=>[]⟩
set_option maxHeartbeats 20000000 in
open infer_sorts in
theorem w116(cp:CallP)(fu:Nat)(x1:Int):J (go Tryz.prog noC cp noI 0 [] d116 fu (fin Tryz.prog [.tmp 2] [9]) (bodyOf Tryz.f116) (initE 0 [.v (.int .i64 x1)]) [] []) (infer_sorts fu x1) e116:=by
 unfold infer_sorts e116
 have da:=d116_at
 conv=>arg 1;simp only[bodyOf,Tryz.f116]
 have z0:=d116_at
 exact Wk
theorem ok116(fu:Nat)(x1:Int)(r)(h:infer_sorts fu x1=some r):PureOK Tryz.prog 116 [.v (.int .i64 x1)] (e116 r):=pureT mixed [] (ids:=[]) rfl (by decide) i116 (C:=noC) (ci:=λcp=>noI) (λcp ok=>noI_ok) (λcp H=>w116 cp fu x1) h
open Aw (d117)
def d117_at:=by have h:=tabL Aw.d117.eq_1;simp only[AllAt,Nat.zero_add,Nat.reduceAdd]at h;exact h
theorem i117:finfo Tryz.prog 117 d117=some ⟨bodyOf Tryz.f117,[.tmp 6],[4]⟩:=finfo_at Tryz.func117 rfl (by kernel_rfl) (by kernel_rfl)
def e117:Bool->AV:=λr=> .v (.bool r)
def infer_ask_fits.j1:LJ 1 0 Unit Bool:=⟨λr t e=>[(1,er e 1),(3,er e 3),(6,.v (.bool t)),(7,er e 7),(12,er e 12)],λr t h=>[((0,3,0),hr h (0,3,0))]⟩
set_option maxHeartbeats 20000000 in
open infer_ask_fits in
theorem w117(cp:CallP)(fu:Nat)(x1:T_infer_ask)(x2:Int)(x3:Int)(H1:K84 fu cp)(H2:K57 fu cp):J (go Tryz.prog noC cp noI 0 [] d117 fu (fin Tryz.prog [.tmp 6] [4]) (bodyOf Tryz.f117) (initE 0 [.agg (c_T_infer_ask x1),.v (.int .i64 x2),.v (.int .u8 x3)]) [] []) (infer_ask_fits fu x1 x2 x3) e117:=by
 unfold infer_ask_fits e117
 have da:=d117_at
 conv=>arg 1;simp only[bodyOf,Tryz.f117]
 have z0:=d117_at
 exact Wk
theorem ok117(fu:Nat)(x1:T_infer_ask)(x2:Int)(x3:Int)(r)(h:infer_ask_fits fu x1 x2 x3=some r):PureOK Tryz.prog 117 [.agg (c_T_infer_ask x1),.v (.int .i64 x2),.v (.int .u8 x3)] (e117 r):=pureT mixed [(C84 fu).ct,(C57 fu).ct] (ids:=[84,57]) rfl (by decide) i117 (C:=noC) (ci:=λcp=>noI) (λcp ok=>noI_ok) (λcp H=>w117 cp fu x1 x2 x3 (u84 H.1) (u57 H.2.1)) h
open Aw (d69)
def d69_at:=by have h:=tabL Aw.d69.eq_1;simp only[AllAt,Nat.zero_add,Nat.reduceAdd]at h;exact h
theorem i69:finfo Tryz.prog 69 d69=some ⟨bodyOf Tryz.f69,[.tmp 2],[4]⟩:=finfo_at Tryz.func69 rfl (by kernel_rfl) (by kernel_rfl)
def e69:Bool->AV:=λr=> .v (.bool r)
structure K116 (fu:Nat) (cp:CallP):Prop where
 ap: ∀ {a0:Int} {r},infer_sorts fu a0=some r->cp 116 [.v (.int .i64 a0)]=some (.v (.string r))
noncomputable def C116(fu:Nat):Cm Tryz.prog Int ByteArray:=⟨116,λt=>[.v (.int .i64 t)],λt=>infer_sorts fu t,e116,λt b h=>ok116 fu t b h,Zi⟩
theorem u116{fu:Nat}{cp:CallP}(H:Hit cp (C116 fu).ct):K116 fu cp:=⟨λ {a0 r} h=>(C116 fu).at H a0 r h⟩
structure K117 (fu:Nat) (cp:CallP):Prop where
 ap: ∀ {a0:T_infer_ask} {a1:Int} {a2:Int} {r},infer_ask_fits fu a0 a1 a2=some r->cp 117 [.agg (c_T_infer_ask a0),.v (.int .i64 a1),.v (.int .u8 a2)]=some (.v (.bool r))
noncomputable def C117(fu:Nat):Cm Tryz.prog (T_infer_ask×Int×Int) Bool:=⟨117,λt=>[.agg (c_T_infer_ask t.1),.v (.int .i64 t.2.1),.v (.int .u8 t.2.2)],λt=>infer_ask_fits fu t.1 t.2.1 t.2.2,e117,λt b h=>ok117 fu t.1 t.2.1 t.2.2 b h,Zi⟩
theorem u117{fu:Nat}{cp:CallP}(H:Hit cp (C117 fu).ct):K117 fu cp:=⟨λ {a0 a1 a2 r} h=>(C117 fu).at H (a0,a1,a2) r h⟩
def infer_ask_typed.m1:LJ 1 6 Unit Int:=⟨λr s e=>[(1,er e 1),(3,er e 3),(10,er e 10),(11,.v (.int .i64 s))],λr s h=>[((0,1,0),hr h (0,1,0))]⟩
def infer_ask_typed.j1:LJ 1 16 Unit Unit:=⟨λr t e=>[(1,er e 1)],λr t h=>[((0,1,0),hr h (0,1,0))]⟩
set_option maxHeartbeats 20000000 in
open infer_ask_typed in
theorem w69(cp:CallP)(fu:Nat)(x1:T_infer_ask)(H1:K116 fu cp)(H2:K68 fu cp)(H3:K84 fu cp)(H4:K57 fu cp)(H5:K117 fu cp):J (go Tryz.prog noC cp noI 0 [] d69 fu (fin Tryz.prog [.tmp 2] [4]) (bodyOf Tryz.f69) (initE 0 [.agg (c_T_infer_ask x1)]) [] []) (infer_ask_typed fu x1) e69:=by
 unfold infer_ask_typed e69
 have da:=d69_at
 conv=>arg 1;simp only[bodyOf,Tryz.f69]
 have z0:=d69_at
 exact Wk
theorem ok69(fu:Nat)(x1:T_infer_ask)(r)(h:infer_ask_typed fu x1=some r):PureOK Tryz.prog 69 [.agg (c_T_infer_ask x1)] (e69 r):=pureT mixed [(C116 fu).ct,(C68 fu).ct,(C84 fu).ct,(C57 fu).ct,(C117 fu).ct] (ids:=[116,68,84,57,117]) rfl (by decide) i69 (C:=noC) (ci:=λcp=>noI) (λcp ok=>noI_ok) (λcp H=>w69 cp fu x1 (u116 H.1) (u68 H.2.1) (u84 H.2.2.1) (u57 H.2.2.2.1) (u117 H.2.2.2.2.1)) h
open Aw (d72)
def d72_at:=by have h:=tabL Aw.d72.eq_1;simp only[AllAt,Nat.zero_add,Nat.reduceAdd]at h;exact h
theorem i72:finfo Tryz.prog 72 d72=some ⟨bodyOf Tryz.f72,[.tmp 4],[22]⟩:=finfo_at Tryz.func72 rfl (by kernel_rfl) (by kernel_rfl)
def e72:(List Int)->AV:=λr=> .arr r.length (lm (ik .i64) r)
set_option maxHeartbeats 20000000 in
theorem w72(cp:CallP)(fu:Nat)(x1:T_infer_ask)(x2:Int)(H1:K84 fu cp):J (go Tryz.prog noC cp noI 0 [] d72 fu (fin Tryz.prog [.tmp 4] [22]) (bodyOf Tryz.f72) (initE 0 [.agg (c_T_infer_ask x1),.v (.int .i64 x2)]) [] []) (infer_ask_dims fu x1 x2) e72:=by
 unfold infer_ask_dims e72
 have da:=d72_at
 conv=>arg 1;simp only[bodyOf,Tryz.f72]
 have z0:=d72_at
 exact Wk
theorem ok72(fu:Nat)(x1:T_infer_ask)(x2:Int)(r)(h:infer_ask_dims fu x1 x2=some r):PureOK Tryz.prog 72 [.agg (c_T_infer_ask x1),.v (.int .i64 x2)] (e72 r):=pureT mixed [(C84 fu).ct] (ids:=[84]) rfl (by decide) i72 (C:=noC) (ci:=λcp=>noI) (λcp ok=>noI_ok) (λcp H=>w72 cp fu x1 x2 (u84 H.1)) h
open Aw (d118)
def d118_at:=by have h:=tabL Aw.d118.eq_1;simp only[AllAt,Nat.zero_add,Nat.reduceAdd]at h;exact h
theorem i118:finfo Tryz.prog 118 d118=some ⟨bodyOf Tryz.f118,[.tmp 2],[3]⟩:=finfo_at Tryz.func118 rfl (by kernel_rfl) (by kernel_rfl)
def e118:Int->AV:=λr=> .v (.int .i64 r)
structure K72 (fu:Nat) (cp:CallP):Prop where
 ap: ∀ {a0:T_infer_ask} {a1:Int} {r},infer_ask_dims fu a0 a1=some r->cp 72 [.agg (c_T_infer_ask a0),.v (.int .i64 a1)]=some (.arr r.length (lm (ik .i64) r))
noncomputable def C72(fu:Nat):Cm Tryz.prog (T_infer_ask×Int) (List Int):=⟨72,λt=>[.agg (c_T_infer_ask t.1),.v (.int .i64 t.2)],λt=>infer_ask_dims fu t.1 t.2,e72,λt b h=>ok72 fu t.1 t.2 b h,Zi⟩
theorem u72{fu:Nat}{cp:CallP}(H:Hit cp (C72 fu).ct):K72 fu cp:=⟨λ {a0 a1 r} h=>(C72 fu).at H (a0,a1) r h⟩
set_option maxHeartbeats 20000000 in
theorem w118(cp:CallP)(fu:Nat)(x1:T_infer_ask)(H1:K72 fu cp):J (go Tryz.prog noC cp noI 0 [] d118 fu (fin Tryz.prog [.tmp 2] [3]) (bodyOf Tryz.f118) (initE 0 [.agg (c_T_infer_ask x1)]) [] []) (infer_ask_rank fu x1) e118:=by
 unfold infer_ask_rank e118
 have da:=d118_at
 conv=>arg 1;simp only[bodyOf,Tryz.f118]
 have z0:=d118_at
 exact Wk
theorem ok118(fu:Nat)(x1:T_infer_ask)(r)(h:infer_ask_rank fu x1=some r):PureOK Tryz.prog 118 [.agg (c_T_infer_ask x1)] (e118 r):=pureT mixed [(C72 fu).ct] (ids:=[72]) rfl (by decide) i118 (C:=noC) (ci:=λcp=>noI) (λcp ok=>noI_ok) (λcp H=>w118 cp fu x1 (u72 H.1)) h
open Aw (d22)
def d22_at:=by have h:=tabL Aw.d22.eq_1;simp only[AllAt,Nat.zero_add,Nat.reduceAdd]at h;exact h
theorem i22:finfo Tryz.prog 22 d22=some ⟨bodyOf Tryz.f22,[.tmp 4,.tmp 5],[3,30]⟩:=finfo_at Tryz.func22 rfl (by kernel_rfl) (by kernel_rfl)
def e22:(Int×Int)->AV:=λr=> .tuple [.v (.int .i64 r.1),.v (.int .i64 r.2)]
set_option maxHeartbeats 20000000 in
theorem w22(cp:CallP)(fu:Nat)(x1:Int)(x2:Int):J (go Tryz.prog noC cp noI 0 [] d22 fu (fin Tryz.prog [.tmp 4,.tmp 5] [3,30]) (bodyOf Tryz.f22) (initE 0 [.v (.int .i64 x1),.v (.int .i64 x2)]) [] []) (shape_Axis fu x1 x2) e22:=by
 unfold shape_Axis e22
 have da:=d22_at
 conv=>arg 1;simp only[bodyOf,Tryz.f22]
 have z0:=d22_at
 exact Wk
theorem ok22(fu:Nat)(x1:Int)(x2:Int)(r)(h:shape_Axis fu x1 x2=some r):PureOK Tryz.prog 22 [.v (.int .i64 x1),.v (.int .i64 x2)] (e22 r):=pureT mixed [] (ids:=[]) rfl (by decide) i22 (C:=noC) (ci:=λcp=>noI) (λcp ok=>noI_ok) (λcp H=>w22 cp fu x1 x2) h
open Aw (d70)
def d70_at:=by have h:=tabL Aw.d70.eq_1;simp only[AllAt,Nat.zero_add,Nat.reduceAdd]at h;exact h
theorem i70:finfo Tryz.prog 70 d70=some ⟨bodyOf Tryz.f70,[.tmp 2],[4]⟩:=finfo_at Tryz.func70 rfl (by kernel_rfl) (by kernel_rfl)
def e70:Bool->AV:=λr=> .v (.bool r)
structure K118 (fu:Nat) (cp:CallP):Prop where
 ap: ∀ {a0:T_infer_ask} {r},infer_ask_rank fu a0=some r->cp 118 [.agg (c_T_infer_ask a0)]=some (.v (.int .i64 r))
noncomputable def C118(fu:Nat):Cm Tryz.prog T_infer_ask Int:=⟨118,λt=>[.agg (c_T_infer_ask t)],λt=>infer_ask_rank fu t,e118,λt b h=>ok118 fu t b h,Zi⟩
theorem u118{fu:Nat}{cp:CallP}(H:Hit cp (C118 fu).ct):K118 fu cp:=⟨λ {a0 r} h=>(C118 fu).at H a0 r h⟩
structure K22 (fu:Nat) (cp:CallP):Prop where
 ap: ∀ {a0:Int} {a1:Int} {r},shape_Axis fu a0 a1=some r->cp 22 [.v (.int .i64 a0),.v (.int .i64 a1)]=some (.tuple [.v (.int .i64 r.1),.v (.int .i64 r.2)])
noncomputable def C22(fu:Nat):Cm Tryz.prog (Int×Int) (Int×Int):=⟨22,λt=>[.v (.int .i64 t.1),.v (.int .i64 t.2)],λt=>shape_Axis fu t.1 t.2,e22,λt b h=>ok22 fu t.1 t.2 b h,Zi⟩
theorem u22{fu:Nat}{cp:CallP}(H:Hit cp (C22 fu).ct):K22 fu cp:=⟨λ {a0 a1 r} h=>(C22 fu).at H (a0,a1) r h⟩
def infer_ask_attributes.j1:LJ 1 104 Unit Unit:=⟨λr t e=>[(1,er e 1),(3,er e 3),(4,er e 4),(17,er e 17),(58,er e 58),(99,.v (.bool true))],λr t h=>[((0,1,0),hr h (0,1,0)),((0,3,0),hr h (0,3,0))]⟩
set_option maxHeartbeats 20000000 in
open infer_ask_attributes in
theorem w70(cp:CallP)(fu:Nat)(x1:T_infer_ask)(H1:K118 fu cp)(H2:K22 fu cp):J (go Tryz.prog noC cp noI 0 [] d70 fu (fin Tryz.prog [.tmp 2] [4]) (bodyOf Tryz.f70) (initE 0 [.agg (c_T_infer_ask x1)]) [] []) (infer_ask_attributes fu x1) e70:=by
 unfold infer_ask_attributes e70
 have da:=d70_at
 conv=>arg 1;simp only[bodyOf,Tryz.f70]
 have z0:=d70_at
 exact Wk
theorem ok70(fu:Nat)(x1:T_infer_ask)(r)(h:infer_ask_attributes fu x1=some r):PureOK Tryz.prog 70 [.agg (c_T_infer_ask x1)] (e70 r):=pureT mixed [(C118 fu).ct,(C22 fu).ct] (ids:=[118,22]) rfl (by decide) i70 (C:=noC) (ci:=λcp=>noI) (λcp ok=>noI_ok) (λcp H=>w70 cp fu x1 (u118 H.1) (u22 H.2.1)) h
open Aw (d123)
def d123_at:=by have h:=tabL Aw.d123.eq_1;simp only[AllAt,Nat.zero_add,Nat.reduceAdd]at h;exact h
theorem i123:finfo Tryz.prog 123 d123=some ⟨bodyOf Tryz.f123,[.tmp 2],[53]⟩:=finfo_at Tryz.func123 rfl (by kernel_rfl) (by kernel_rfl)
def e123:(List T_Val)->AV:=λr=> .fresh 8 r.length (fm c_T_Val r)
def infer_ask_lists.j1:LJ 1 6 T_infer_ask Unit:=⟨λr t e=>[(1,er e 1),(3,er e 3),(4,er e 4),(8,er e 8),(13,.v (.bool (decide (r.fop=65))))],λr t h=>[((0,1,0),hr h (0,1,0))]⟩
set_option maxHeartbeats 20000000 in
open infer_ask_lists in
theorem w123(cp:CallP)(fu:Nat)(x1:T_infer_ask):J (go Tryz.prog noC cp noI 0 [] d123 fu (fin Tryz.prog [.tmp 2] [53]) (bodyOf Tryz.f123) (initE 0 [.agg (c_T_infer_ask x1)]) [] []) (infer_ask_lists fu x1) e123:=by
 unfold infer_ask_lists e123
 have da:=d123_at
 conv=>arg 1;simp only[bodyOf,Tryz.f123]
 have z0:=d123_at
 exact Wk
theorem ok123(fu:Nat)(x1:T_infer_ask)(r)(h:infer_ask_lists fu x1=some r):PureOK Tryz.prog 123 [.agg (c_T_infer_ask x1)] (e123 r):=pureT mixed [] (ids:=[]) rfl (by decide) i123 (C:=noC) (ci:=λcp=>noI) (λcp ok=>noI_ok) (λcp H=>w123 cp fu x1) h
open Aw (d154)
def d154_at:=by have h:=tabL Aw.d154.eq_1;simp only[AllAt,Nat.zero_add,Nat.reduceAdd]at h;exact h
theorem i154:finfo Tryz.prog 154 d154=some ⟨bodyOf Tryz.f154,[.tmp 4],[3]⟩:=finfo_at Tryz.func154 rfl (by kernel_rfl) (by kernel_rfl)
def e154:Int->AV:=λr=> .v (.int .i64 r)
set_option maxHeartbeats 20000000 in
theorem w154(cp:CallP)(fu:Nat)(x1:List T_Val)(p1:T_Val→Option Bool)(fv_p1:FuncId)(ca_p1:List AV)(cap_p1:Capt ca_p1)(hp_p1: ∀ (y0:T_Val) r,p1 y0=some r→cp fv_p1 ((.agg (c_T_Val y0))::ca_p1)=some (.v (.bool r))):J (go Tryz.prog noC cp noI 0 [] d154 fu (fin Tryz.prog [.tmp 4] [3]) (bodyOf Tryz.f154) (initE 0 [.arr x1.length (fm c_T_Val x1),.fn fv_p1 [] ca_p1]) [] []) (slices_IndexFunc_api_Val_api_Val fu x1 p1) e154:=by
 unfold slices_IndexFunc_api_Val_api_Val e154
 have da:=d154_at
 have c4_p1:=λg=>(cap_p1.1 g).1;have c3_p1:=λg=>(cap_p1.1 g).2.1;have b4_p1:=λg=>(cap_p1.1 g).2.2.1;have b3_p1:=λg=>(cap_p1.1 g).2.2.2;have nm_p1:=cap_p1.2
 conv=>arg 1;simp (disch:=first|exact Zd|fail) only[bodyOf,Tryz.f154,ZZ,d154_at,simprocAttr,c4_p1,c3_p1,b4_p1,b3_p1,nm_p1]
 refine J.eq go_seq ?_
 conv=>arg 1;simp (disch:=first|exact Zd|fail) only[ZZ,d154_at,simprocAttr,c4_p1,c3_p1,b4_p1,b3_p1,nm_p1]
 unfold slices_IndexFunc_api_Val_api_Val.W1
 refine J.loop (λ(s:Int)=>([(0,.arr x1.length (fm c_T_Val x1)),(1,.fn fv_p1 [] ca_p1),(7,.v (.int .i64 (x1.length:Int))),(8,.v (.int .i64 s))],[])) (λnext s=>slices_IndexFunc_api_Val_api_Val.L1 fu p1 x1 next s) (s0:=0) ?_ ?_ ?_
 ·exact Ze
 ·exact Zh
 rintro nx1 k1 hn1 x4
 show J _ (slices_IndexFunc_api_Val_api_Val.L1 fu p1 x1 nx1 x4) _
 unfold slices_IndexFunc_api_Val_api_Val.L1
 conv=>arg 1;simp (disch:=first|exact Zd|fail) only[ZZ,d154_at,simprocAttr,c4_p1,c3_p1,b4_p1,b3_p1,nm_p1]
 refine J.eq go_seq ?_
 conv=>arg 1;simp (disch:=first|exact Zd|fail) only[ZZ,d154_at,simprocAttr,c4_p1,c3_p1,b4_p1,b3_p1,nm_p1]
 refine J.ite (λh1=> ?_) (λh1=> ?_)
 ·have h1':=decide_eq_true h1
  have h1'':decide ((x1.length:Int)<=x4)=false:=decide_eq_false (by omega)
  conv=>arg 1;simp (disch:=first|exact Zd|fail) only[ZZ,d154_at,simprocAttr,c4_p1,c3_p1,b4_p1,b3_p1,nm_p1,h1'',h1']
  refine J.eq ret_seq ?_
  refine J.eq go_seq ?_
  refine J.at λx7 h2 h3 h4=> ?_
  refine J.bind λx8 h5=> ?_
  have e_h5:=hp_p1 _ _ h5
  try simp only[NN,NT,LN,simprocAttr,DT]at e_h5
  conv=>arg 1;simp (disch:=first|exact Zd|fail) only[ZZ,d154_at,simprocAttr,c4_p1,c3_p1,b4_p1,b3_p1,nm_p1,h1'',h1',fm_cut c_T_Val_len h4,fm_fit c_T_Val_len h4,fm_at c_T_Val_len h4,fm_at0 c_T_Val_len h4,e_h5]
  refine J.ite (λh6=> ?_) (λh6=> ?_)
  ·have h6':x8=true:=h6
   refine J.some ?_
   simp (maxSteps:=20000000) (disch:=first|exact Zd|fail) only[ZZ,d154_at,simprocAttr,c4_p1,c3_p1,b4_p1,b3_p1,nm_p1,h1'',h1',fm_cut c_T_Val_len h4,fm_fit c_T_Val_len h4,fm_at c_T_Val_len h4,fm_at0 c_T_Val_len h4,e_h5,h6',FN]
  ·have h6':x8=false:=Bool.eq_false_iff.2 h6
   conv=>arg 1;simp (disch:=first|exact Zd|fail) only[ZZ,d154_at,simprocAttr,c4_p1,c3_p1,b4_p1,b3_p1,nm_p1,h1'',h1',fm_cut c_T_Val_len h4,fm_fit c_T_Val_len h4,fm_at c_T_Val_len h4,fm_at0 c_T_Val_len h4,e_h5,h6']
   refine J.eq ret_seq ?_
   conv=>arg 1;simp (disch:=first|exact Zd|fail) only[ZZ,d154_at,simprocAttr,c4_p1,c3_p1,b4_p1,b3_p1,nm_p1,h1'',h1',fm_cut c_T_Val_len h4,fm_fit c_T_Val_len h4,fm_at c_T_Val_len h4,fm_at0 c_T_Val_len h4,e_h5,h6']
   refine J.next (s:=wk .i64 (x4+1)) hn1 ?_ ?_
   ·exact Ze
   ·exact Zh
 ·have h1':=decide_eq_false h1
  have h1'':decide ((x1.length:Int)<=x4)=true:=decide_eq_true (by omega)
  conv=>arg 1;simp (disch:=first|exact Zd|fail) only[ZZ,d154_at,simprocAttr,c4_p1,c3_p1,b4_p1,b3_p1,nm_p1,h1'',h1']
  refine J.eq ret_seq ?_
  refine J.some ?_
  simp (maxSteps:=20000000) (disch:=first|exact Zd|fail) only[ZZ,d154_at,simprocAttr,c4_p1,c3_p1,b4_p1,b3_p1,nm_p1,h1'',h1',FN]
noncomputable def t154(fu:Nat)(x1:List T_Val)(p1:T_Val->Option Bool)(fv_p1:FuncId)(ca_p1:List AV):CallP:=orE fv_p1 (mkC (λ(t:T_Val)=>((.agg (c_T_Val t))::ca_p1:List AV)) (λt=>p1 t) (λr=> .v (.bool r))) (noP)
theorem t154_ok(fu:Nat)(x1:List T_Val)(p1:T_Val->Option Bool)(fv_p1:FuncId)(ca_p1:List AV)(cap_p1:Capt ca_p1)(hp_p1: ∀ (y0:T_Val) r,p1 y0=some r->PureOK Tryz.prog fv_p1 ((.agg (c_T_Val y0))::ca_p1) (.v (.bool r))):CpOK Tryz.prog (t154 fu x1 p1 fv_p1 ca_p1):=orE_ok (noP_ok) (mkC_ok (λt b h=>hp_p1 t b h))
theorem ok154(fu:Nat)(x1:List T_Val)(p1:T_Val→Option Bool)(fv_p1:FuncId)(ca_p1:List AV)(cap_p1:Capt ca_p1)(hp_p1: ∀ (y0:T_Val) r,p1 y0=some r→PureOK Tryz.prog fv_p1 ((.agg (c_T_Val y0))::ca_p1) (.v (.bool r)))(r)(h:slices_IndexFunc_api_Val_api_Val fu x1 p1=some r):PureOK Tryz.prog 154 [.arr x1.length (fm c_T_Val x1),.fn fv_p1 [] ca_p1] (e154 r):=
  pure_J mixed (cp:=t154 fu x1 p1 fv_p1 ca_p1) (t154_ok fu x1 p1 fv_p1 ca_p1 cap_p1 hp_p1) noI_ok i154 (w154 _ fu x1 p1 fv_p1 ca_p1 cap_p1 (λy0 r h=>orE_hit (mkC_at (a:=y0) (by intro a b h;first|(exact rfl)|(simp only[INJ,IJ]at h;first|exact h|(simp_all [Prod.ext_iff]))) h))) h
open Aw (d124)
def d124_at:=by have h:=tabL Aw.d124.eq_1;simp only[AllAt,Nat.zero_add,Nat.reduceAdd]at h;exact h
theorem i124:finfo Tryz.prog 124 d124=some ⟨bodyOf Tryz.f124,[.tmp 4],[4]⟩:=finfo_at Tryz.func124 rfl (by kernel_rfl) (by kernel_rfl)
def e124:Bool->AV:=λr=> .v (.bool r)
set_option maxHeartbeats 20000000 in
theorem w124(cp:CallP)(fu:Nat)(x1:List T_Val)(p1:T_Val→Option Bool)(fv_p1:FuncId)(ca_p1:List AV)(cap_p1:Capt ca_p1)(hp_p1: ∀ (y0:T_Val) r,p1 y0=some r→cp fv_p1 ((.agg (c_T_Val y0))::ca_p1)=some (.v (.bool r)))(H154_0: ∀ (a0:List T_Val) r,slices_IndexFunc_api_Val_api_Val fu a0 p1=some r→cp 154 [.arr a0.length (fm c_T_Val a0),.fn fv_p1 [] ca_p1]=some (.v (.int .i64 r))):J (go Tryz.prog noC cp noI 0 [] d124 fu (fin Tryz.prog [.tmp 4] [4]) (bodyOf Tryz.f124) (initE 0 [.arr x1.length (fm c_T_Val x1),.fn fv_p1 [] ca_p1]) [] []) (slices_ContainsFunc_api_Val_api_Val fu x1 p1) e124:=by
 unfold slices_ContainsFunc_api_Val_api_Val e124
 have da:=d124_at
 have c4_p1:=λg=>(cap_p1.1 g).1;have c3_p1:=λg=>(cap_p1.1 g).2.1;have b4_p1:=λg=>(cap_p1.1 g).2.2.1;have b3_p1:=λg=>(cap_p1.1 g).2.2.2;have nm_p1:=cap_p1.2
 refine J.bind λx2 h1=> ?_
 have e_h1:=H154_0 _ _ h1
 try simp only[NN,NT,LN,simprocAttr,DT]at e_h1
 refine J.some ?_
 simp (maxSteps:=20000000) (disch:=first|exact Zd|fail) only[bodyOf,Tryz.f124,ZZ,d124_at,simprocAttr,c4_p1,c3_p1,b4_p1,b3_p1,nm_p1,e_h1,FN]
noncomputable def t124(fu:Nat)(x1:List T_Val)(p1:T_Val->Option Bool)(fv_p1:FuncId)(ca_p1:List AV):CallP:=orE 154 (mkC (λ(t:List T_Val)=>([.arr t.length (fm c_T_Val t),.fn fv_p1 [] ca_p1]:List AV)) (λt=>slices_IndexFunc_api_Val_api_Val fu t p1) e154) (orE fv_p1 (mkC (λ(t:T_Val)=>((.agg (c_T_Val t))::ca_p1:List AV)) (λt=>p1 t) (λr=> .v (.bool r))) (noP))
theorem t124_ok(fu:Nat)(x1:List T_Val)(p1:T_Val->Option Bool)(fv_p1:FuncId)(ca_p1:List AV)(cap_p1:Capt ca_p1)(hp_p1: ∀ (y0:T_Val) r,p1 y0=some r->PureOK Tryz.prog fv_p1 ((.agg (c_T_Val y0))::ca_p1) (.v (.bool r))):CpOK Tryz.prog (t124 fu x1 p1 fv_p1 ca_p1):=orE_ok (orE_ok (noP_ok) (mkC_ok (λt b h=>hp_p1 t b h))) (mkC_ok (λt b h=>ok154 fu t p1 fv_p1 ca_p1 cap_p1 hp_p1 b h))
theorem ok124(fu:Nat)(x1:List T_Val)(p1:T_Val→Option Bool)(fv_p1:FuncId)(ca_p1:List AV)(cap_p1:Capt ca_p1)(hp_p1: ∀ (y0:T_Val) r,p1 y0=some r→PureOK Tryz.prog fv_p1 ((.agg (c_T_Val y0))::ca_p1) (.v (.bool r)))(r)(h:slices_ContainsFunc_api_Val_api_Val fu x1 p1=some r):PureOK Tryz.prog 124 [.arr x1.length (fm c_T_Val x1),.fn fv_p1 [] ca_p1] (e124 r):=
  pure_J mixed (cp:=t124 fu x1 p1 fv_p1 ca_p1) (t124_ok fu x1 p1 fv_p1 ca_p1 cap_p1 hp_p1) noI_ok i124 (w124 _ fu x1 p1 fv_p1 ca_p1 cap_p1 (λy0 r h=>orE_skip (λhfv=>mkC_none (by intro t h;simp at h)) (orE_hit (mkC_at (a:=y0) (by intro a b h;first|(exact rfl)|(simp only[INJ,IJ]at h;first|exact h|(simp_all [Prod.ext_iff]))) h))) (λa0 r h=>orE_hit (mkC_at (a:=a0) (by intro a b h;first|(exact rfl)|(simp only[INJ,IJ]at h;first|exact h|(simp_all [Prod.ext_iff]))) h))) h
open Aw (d132)
def d132_at:=by have h:=tabL Aw.d132.eq_1;simp only[AllAt,Nat.zero_add,Nat.reduceAdd]at h;exact h
theorem i132:finfo Tryz.prog 132 d132=some ⟨bodyOf Tryz.f132,[.tmp 4],[4]⟩:=finfo_at Tryz.func132 rfl (by kernel_rfl) (by kernel_rfl)
def e132:Bool->AV:=λr=> .v (.bool r)
def slices_Equal_int.m1:LJ 1 8 Unit Int:=⟨λr s e=>[(0,er e 0),(1,er e 1),(12,er e 12),(13,.v (.int .i64 s))],λr s h=>[]⟩
set_option maxHeartbeats 20000000 in
open slices_Equal_int in
theorem w132(cp:CallP)(fu:Nat)(x1:List Int)(x2:List Int):J (go Tryz.prog noC cp noI 0 [] d132 fu (fin Tryz.prog [.tmp 4] [4]) (bodyOf Tryz.f132) (initE 0 [.arr x1.length (lm (ik .i64) x1),.arr x2.length (lm (ik .i64) x2)]) [] []) (slices_Equal_int fu x1 x2) e132:=by
 unfold slices_Equal_int e132
 have da:=d132_at
 conv=>arg 1;simp only[bodyOf,Tryz.f132]
 have z0:=d132_at
 exact Wk
theorem ok132(fu:Nat)(x1:List Int)(x2:List Int)(r)(h:slices_Equal_int fu x1 x2=some r):PureOK Tryz.prog 132 [.arr x1.length (lm (ik .i64) x1),.arr x2.length (lm (ik .i64) x2)] (e132 r):=pureT mixed [] (ids:=[]) rfl (by decide) i132 (C:=noC) (ci:=λcp=>noI) (λcp ok=>noI_ok) (λcp H=>w132 cp fu x1 x2) h
open Aw (d126)
def d126_at:=by have h:=tabL Aw.d126.eq_1;simp only[AllAt,Nat.zero_add,Nat.reduceAdd]at h;exact h
theorem i126:finfo Tryz.prog 126 d126=some ⟨bodyOf Tryz.f126,[.tmp 2],[4]⟩:=finfo_at Tryz.func126 rfl (by kernel_rfl) (by kernel_rfl)
def e126:Bool->AV:=λr=> .v (.bool r)
structure K18 (fu:Nat) (cp:CallP):Prop where
 ap: ∀ {a0:T_Tensor} {r},tens_Check fu a0=some r->cp 18 [.agg (c_T_Tensor a0)]=some (.v (.int .i64 r))
noncomputable def C18(fu:Nat):Cm Tryz.prog T_Tensor Int:=⟨18,λt=>[.agg (c_T_Tensor t)],λt=>tens_Check fu t,e18,λt b h=>ok18 fu t b h,Zi⟩
theorem u18{fu:Nat}{cp:CallP}(H:Hit cp (C18 fu).ct):K18 fu cp:=⟨λ {a0 r} h=>(C18 fu).at H a0 r h⟩
structure K132 (fu:Nat) (cp:CallP):Prop where
 ap: ∀ {a0:List Int} {a1:List Int} {r},slices_Equal_int fu a0 a1=some r->cp 132 [.arr a0.length (lm (ik .i64) a0),.arr a1.length (lm (ik .i64) a1)]=some (.v (.bool r))
noncomputable def C132(fu:Nat):Cm Tryz.prog ((List Int)×(List Int)) Bool:=⟨132,λt=>[.arr t.1.length (lm (ik .i64) t.1),.arr t.2.length (lm (ik .i64) t.2)],λt=>slices_Equal_int fu t.1 t.2,e132,λt b h=>ok132 fu t.1 t.2 b h,Zi⟩
theorem u132{fu:Nat}{cp:CallP}(H:Hit cp (C132 fu).ct):K132 fu cp:=⟨λ {a0 a1 r} h=>(C132 fu).at H (a0,a1) r h⟩
set_option maxHeartbeats 20000000 in
theorem w126(cp:CallP)(fu:Nat)(x1:T_Val)(H1:K18 fu cp)(H2:K132 fu cp):J (go Tryz.prog noC cp noI 0 [] d126 fu (fin Tryz.prog [.tmp 2] [4]) (bodyOf Tryz.f126) (initE 0 [.agg (c_T_Val x1)]) [] []) (infer_held fu x1) e126:=by
 unfold infer_held e126
 have da:=d126_at
 conv=>arg 1;simp only[bodyOf,Tryz.f126]
 have z0:=d126_at
 exact Wk
theorem ok126(fu:Nat)(x1:T_Val)(r)(h:infer_held fu x1=some r):PureOK Tryz.prog 126 [.agg (c_T_Val x1)] (e126 r):=pureT mixed [(C18 fu).ct,(C132 fu).ct] (ids:=[18,132]) rfl (by decide) i126 (C:=noC) (ci:=λcp=>noI) (λcp ok=>noI_ok) (λcp H=>w126 cp fu x1 (u18 H.1) (u132 H.2.1)) h
open Aw (d125)
def d125_at:=by have h:=tabL Aw.d125.eq_1;simp only[AllAt,Nat.zero_add,Nat.reduceAdd]at h;exact h
theorem i125:finfo Tryz.prog 125 d125=some ⟨bodyOf Tryz.f125,[.tmp 2],[4]⟩:=finfo_at Tryz.func125 rfl (by kernel_rfl) (by kernel_rfl)
def e125:Bool->AV:=λr=> .v (.bool r)
structure K126 (fu:Nat) (cp:CallP):Prop where
 ap: ∀ {a0:T_Val} {r},infer_held fu a0=some r->cp 126 [.agg (c_T_Val a0)]=some (.v (.bool r))
noncomputable def C126(fu:Nat):Cm Tryz.prog T_Val Bool:=⟨126,λt=>[.agg (c_T_Val t)],λt=>infer_held fu t,e126,λt b h=>ok126 fu t b h,Zi⟩
theorem u126{fu:Nat}{cp:CallP}(H:Hit cp (C126 fu).ct):K126 fu cp:=⟨λ {a0 r} h=>(C126 fu).at H a0 r h⟩
set_option maxHeartbeats 20000000 in
theorem w125(cp:CallP)(fu:Nat)(x1:T_Val)(H1:K126 fu cp):J (go Tryz.prog noC cp noI 0 [] d125 fu (fin Tryz.prog [.tmp 2] [4]) (bodyOf Tryz.f125) (initE 0 [.agg (c_T_Val x1)]) [] []) (infer_ask_told_1 fu x1) e125:=by
 unfold infer_ask_told_1 e125
 have da:=d125_at
 conv=>arg 1;simp only[bodyOf,Tryz.f125]
 have z0:=d125_at
 exact Wk
theorem ok125(fu:Nat)(x1:T_Val)(r)(h:infer_ask_told_1 fu x1=some r):PureOK Tryz.prog 125 [.agg (c_T_Val x1)] (e125 r):=pureT mixed [(C126 fu).ct] (ids:=[126]) rfl (by decide) i125 (C:=noC) (ci:=λcp=>noI) (λcp ok=>noI_ok) (λcp H=>w125 cp fu x1 (u126 H.1)) h
open Aw (d127)
def d127_at:=by have h:=tabL Aw.d127.eq_1;simp only[AllAt,Nat.zero_add,Nat.reduceAdd]at h;exact h
theorem i127:finfo Tryz.prog 127 d127=some ⟨bodyOf Tryz.f127,[.tmp 2],[4]⟩:=finfo_at Tryz.func127 rfl (by kernel_rfl) (by kernel_rfl)
def e127:Bool->AV:=λr=> .v (.bool r)
set_option maxHeartbeats 20000000 in
theorem w127(cp:CallP)(fu:Nat)(x1:T_Val):J (go Tryz.prog noC cp noI 0 [] d127 fu (fin Tryz.prog [.tmp 2] [4]) (bodyOf Tryz.f127) (initE 0 [.agg (c_T_Val x1)]) [] []) (infer_ask_told_2 fu x1) e127:=by
 unfold infer_ask_told_2 e127
 have da:=d127_at
 conv=>arg 1;simp only[bodyOf,Tryz.f127]
 have z0:=d127_at
 exact Wk
theorem ok127(fu:Nat)(x1:T_Val)(r)(h:infer_ask_told_2 fu x1=some r):PureOK Tryz.prog 127 [.agg (c_T_Val x1)] (e127 r):=pureT mixed [] (ids:=[]) rfl (by decide) i127 (C:=noC) (ci:=λcp=>noI) (λcp ok=>noI_ok) (λcp H=>w127 cp fu x1) h
open Aw (d155)
def d155_at:=by have h:=tabL Aw.d155.eq_1;simp only[AllAt,Nat.zero_add,Nat.reduceAdd]at h;exact h
theorem i155:finfo Tryz.prog 155 d155=some ⟨bodyOf Tryz.f155,[.tmp 4],[3]⟩:=finfo_at Tryz.func155 rfl (by kernel_rfl) (by kernel_rfl)
def e155:Int->AV:=λr=> .v (.int .i64 r)
set_option maxHeartbeats 20000000 in
theorem w155(cp:CallP)(fu:Nat)(x1:List Int)(p1:Int→Option Bool)(fv_p1:FuncId)(ca_p1:List AV)(cap_p1:Capt ca_p1)(hp_p1: ∀ (y0:Int) r,p1 y0=some r→cp fv_p1 ((.v (.int .i64 y0))::ca_p1)=some (.v (.bool r))):J (go Tryz.prog noC cp noI 0 [] d155 fu (fin Tryz.prog [.tmp 4] [3]) (bodyOf Tryz.f155) (initE 0 [.arr x1.length (lm (ik .i64) x1),.fn fv_p1 [] ca_p1]) [] []) (slices_IndexFunc_int64 fu x1 p1) e155:=by
 unfold slices_IndexFunc_int64 e155
 have da:=d155_at
 have c4_p1:=λg=>(cap_p1.1 g).1;have c3_p1:=λg=>(cap_p1.1 g).2.1;have b4_p1:=λg=>(cap_p1.1 g).2.2.1;have b3_p1:=λg=>(cap_p1.1 g).2.2.2;have nm_p1:=cap_p1.2
 conv=>arg 1;simp (disch:=first|exact Zd|fail) only[bodyOf,Tryz.f155,ZZ,d155_at,simprocAttr,c4_p1,c3_p1,b4_p1,b3_p1,nm_p1]
 refine J.eq go_seq ?_
 conv=>arg 1;simp (disch:=first|exact Zd|fail) only[ZZ,d155_at,simprocAttr,c4_p1,c3_p1,b4_p1,b3_p1,nm_p1]
 unfold slices_IndexFunc_int64.W1
 refine J.loop (λ(s:Int)=>([(0,.arr x1.length (lm (ik .i64) x1)),(1,.fn fv_p1 [] ca_p1),(7,.v (.int .i64 (x1.length:Int))),(8,.v (.int .i64 s))],[])) (λnext s=>slices_IndexFunc_int64.L1 fu p1 x1 next s) (s0:=0) ?_ ?_ ?_
 ·exact Ze
 ·exact Zh
 rintro nx1 k1 hn1 x4
 show J _ (slices_IndexFunc_int64.L1 fu p1 x1 nx1 x4) _
 unfold slices_IndexFunc_int64.L1
 conv=>arg 1;simp (disch:=first|exact Zd|fail) only[ZZ,d155_at,simprocAttr,c4_p1,c3_p1,b4_p1,b3_p1,nm_p1]
 refine J.eq go_seq ?_
 conv=>arg 1;simp (disch:=first|exact Zd|fail) only[ZZ,d155_at,simprocAttr,c4_p1,c3_p1,b4_p1,b3_p1,nm_p1]
 refine J.ite (λh1=> ?_) (λh1=> ?_)
 ·have h1':=decide_eq_true h1
  have h1'':decide ((x1.length:Int)<=x4)=false:=decide_eq_false (by omega)
  conv=>arg 1;simp (disch:=first|exact Zd|fail) only[ZZ,d155_at,simprocAttr,c4_p1,c3_p1,b4_p1,b3_p1,nm_p1,h1'',h1']
  refine J.eq ret_seq ?_
  refine J.eq go_seq ?_
  refine J.at λx7 h2 h3 h4=> ?_
  refine J.bind λx8 h5=> ?_
  have e_h5:=hp_p1 _ _ h5
  try simp only[NN,NT,LN,simprocAttr,DT]at e_h5
  conv=>arg 1;simp (disch:=first|exact Zd|fail) only[ZZ,d155_at,simprocAttr,c4_p1,c3_p1,b4_p1,b3_p1,nm_p1,h1'',h1',lm_ik h4,e_h5]
  refine J.ite (λh6=> ?_) (λh6=> ?_)
  ·have h6':x8=true:=h6
   refine J.some ?_
   simp (maxSteps:=20000000) (disch:=first|exact Zd|fail) only[ZZ,d155_at,simprocAttr,c4_p1,c3_p1,b4_p1,b3_p1,nm_p1,h1'',h1',lm_ik h4,e_h5,h6',FN]
  ·have h6':x8=false:=Bool.eq_false_iff.2 h6
   conv=>arg 1;simp (disch:=first|exact Zd|fail) only[ZZ,d155_at,simprocAttr,c4_p1,c3_p1,b4_p1,b3_p1,nm_p1,h1'',h1',lm_ik h4,e_h5,h6']
   refine J.eq ret_seq ?_
   conv=>arg 1;simp (disch:=first|exact Zd|fail) only[ZZ,d155_at,simprocAttr,c4_p1,c3_p1,b4_p1,b3_p1,nm_p1,h1'',h1',lm_ik h4,e_h5,h6']
   refine J.next (s:=wk .i64 (x4+1)) hn1 ?_ ?_
   ·exact Ze
   ·exact Zh
 ·have h1':=decide_eq_false h1
  have h1'':decide ((x1.length:Int)<=x4)=true:=decide_eq_true (by omega)
  conv=>arg 1;simp (disch:=first|exact Zd|fail) only[ZZ,d155_at,simprocAttr,c4_p1,c3_p1,b4_p1,b3_p1,nm_p1,h1'',h1']
  refine J.eq ret_seq ?_
  refine J.some ?_
  simp (maxSteps:=20000000) (disch:=first|exact Zd|fail) only[ZZ,d155_at,simprocAttr,c4_p1,c3_p1,b4_p1,b3_p1,nm_p1,h1'',h1',FN]
noncomputable def t155(fu:Nat)(x1:List Int)(p1:Int->Option Bool)(fv_p1:FuncId)(ca_p1:List AV):CallP:=orE fv_p1 (mkC (λ(t:Int)=>((.v (.int .i64 t))::ca_p1:List AV)) (λt=>p1 t) (λr=> .v (.bool r))) (noP)
theorem t155_ok(fu:Nat)(x1:List Int)(p1:Int->Option Bool)(fv_p1:FuncId)(ca_p1:List AV)(cap_p1:Capt ca_p1)(hp_p1: ∀ (y0:Int) r,p1 y0=some r->PureOK Tryz.prog fv_p1 ((.v (.int .i64 y0))::ca_p1) (.v (.bool r))):CpOK Tryz.prog (t155 fu x1 p1 fv_p1 ca_p1):=orE_ok (noP_ok) (mkC_ok (λt b h=>hp_p1 t b h))
theorem ok155(fu:Nat)(x1:List Int)(p1:Int→Option Bool)(fv_p1:FuncId)(ca_p1:List AV)(cap_p1:Capt ca_p1)(hp_p1: ∀ (y0:Int) r,p1 y0=some r→PureOK Tryz.prog fv_p1 ((.v (.int .i64 y0))::ca_p1) (.v (.bool r)))(r)(h:slices_IndexFunc_int64 fu x1 p1=some r):PureOK Tryz.prog 155 [.arr x1.length (lm (ik .i64) x1),.fn fv_p1 [] ca_p1] (e155 r):=
  pure_J mixed (cp:=t155 fu x1 p1 fv_p1 ca_p1) (t155_ok fu x1 p1 fv_p1 ca_p1 cap_p1 hp_p1) noI_ok i155 (w155 _ fu x1 p1 fv_p1 ca_p1 cap_p1 (λy0 r h=>orE_hit (mkC_at (a:=y0) (by intro a b h;first|(exact rfl)|(simp only[INJ,IJ]at h;first|exact h|(simp_all [Prod.ext_iff]))) h))) h
open Aw (d129)
def d129_at:=by have h:=tabL Aw.d129.eq_1;simp only[AllAt,Nat.zero_add,Nat.reduceAdd]at h;exact h
theorem i129:finfo Tryz.prog 129 d129=some ⟨bodyOf Tryz.f129,[.tmp 4],[4]⟩:=finfo_at Tryz.func129 rfl (by kernel_rfl) (by kernel_rfl)
def e129:Bool->AV:=λr=> .v (.bool r)
set_option maxHeartbeats 20000000 in
theorem w129(cp:CallP)(fu:Nat)(x1:List Int)(p1:Int→Option Bool)(fv_p1:FuncId)(ca_p1:List AV)(cap_p1:Capt ca_p1)(hp_p1: ∀ (y0:Int) r,p1 y0=some r→cp fv_p1 ((.v (.int .i64 y0))::ca_p1)=some (.v (.bool r)))(H155_0: ∀ (a0:List Int) r,slices_IndexFunc_int64 fu a0 p1=some r→cp 155 [.arr a0.length (lm (ik .i64) a0),.fn fv_p1 [] ca_p1]=some (.v (.int .i64 r))):J (go Tryz.prog noC cp noI 0 [] d129 fu (fin Tryz.prog [.tmp 4] [4]) (bodyOf Tryz.f129) (initE 0 [.arr x1.length (lm (ik .i64) x1),.fn fv_p1 [] ca_p1]) [] []) (slices_ContainsFunc_int64 fu x1 p1) e129:=by
 unfold slices_ContainsFunc_int64 e129
 have da:=d129_at
 have c4_p1:=λg=>(cap_p1.1 g).1;have c3_p1:=λg=>(cap_p1.1 g).2.1;have b4_p1:=λg=>(cap_p1.1 g).2.2.1;have b3_p1:=λg=>(cap_p1.1 g).2.2.2;have nm_p1:=cap_p1.2
 refine J.bind λx2 h1=> ?_
 have e_h1:=H155_0 _ _ h1
 try simp only[NN,NT,LN,simprocAttr,DT]at e_h1
 refine J.some ?_
 simp (maxSteps:=20000000) (disch:=first|exact Zd|fail) only[bodyOf,Tryz.f129,ZZ,d129_at,simprocAttr,c4_p1,c3_p1,b4_p1,b3_p1,nm_p1,e_h1,FN]
noncomputable def t129(fu:Nat)(x1:List Int)(p1:Int->Option Bool)(fv_p1:FuncId)(ca_p1:List AV):CallP:=orE 155 (mkC (λ(t:List Int)=>([.arr t.length (lm (ik .i64) t),.fn fv_p1 [] ca_p1]:List AV)) (λt=>slices_IndexFunc_int64 fu t p1) e155) (orE fv_p1 (mkC (λ(t:Int)=>((.v (.int .i64 t))::ca_p1:List AV)) (λt=>p1 t) (λr=> .v (.bool r))) (noP))
theorem t129_ok(fu:Nat)(x1:List Int)(p1:Int->Option Bool)(fv_p1:FuncId)(ca_p1:List AV)(cap_p1:Capt ca_p1)(hp_p1: ∀ (y0:Int) r,p1 y0=some r->PureOK Tryz.prog fv_p1 ((.v (.int .i64 y0))::ca_p1) (.v (.bool r))):CpOK Tryz.prog (t129 fu x1 p1 fv_p1 ca_p1):=orE_ok (orE_ok (noP_ok) (mkC_ok (λt b h=>hp_p1 t b h))) (mkC_ok (λt b h=>ok155 fu t p1 fv_p1 ca_p1 cap_p1 hp_p1 b h))
theorem ok129(fu:Nat)(x1:List Int)(p1:Int→Option Bool)(fv_p1:FuncId)(ca_p1:List AV)(cap_p1:Capt ca_p1)(hp_p1: ∀ (y0:Int) r,p1 y0=some r→PureOK Tryz.prog fv_p1 ((.v (.int .i64 y0))::ca_p1) (.v (.bool r)))(r)(h:slices_ContainsFunc_int64 fu x1 p1=some r):PureOK Tryz.prog 129 [.arr x1.length (lm (ik .i64) x1),.fn fv_p1 [] ca_p1] (e129 r):=
  pure_J mixed (cp:=t129 fu x1 p1 fv_p1 ca_p1) (t129_ok fu x1 p1 fv_p1 ca_p1 cap_p1 hp_p1) noI_ok i129 (w129 _ fu x1 p1 fv_p1 ca_p1 cap_p1 (λy0 r h=>orE_skip (λhfv=>mkC_none (by intro t h;simp at h)) (orE_hit (mkC_at (a:=y0) (by intro a b h;first|(exact rfl)|(simp only[INJ,IJ]at h;first|exact h|(simp_all [Prod.ext_iff]))) h))) (λa0 r h=>orE_hit (mkC_at (a:=a0) (by intro a b h;first|(exact rfl)|(simp only[INJ,IJ]at h;first|exact h|(simp_all [Prod.ext_iff]))) h))) h
open Aw (d130)
def d130_at:=by have h:=tabL Aw.d130.eq_1;simp only[AllAt,Nat.zero_add,Nat.reduceAdd]at h;exact h
theorem i130:finfo Tryz.prog 130 d130=some ⟨bodyOf Tryz.f130,[.tmp 2],[4]⟩:=finfo_at Tryz.func130 rfl (by kernel_rfl) (by kernel_rfl)
def e130:Bool->AV:=λr=> .v (.bool r)
set_option maxHeartbeats 20000000 in
theorem w130(cp:CallP)(fu:Nat)(x1:Int):J (go Tryz.prog noC cp noI 0 [] d130 fu (fin Tryz.prog [.tmp 2] [4]) (bodyOf Tryz.f130) (initE 0 [.v (.int .i64 x1)]) [] []) (infer_ask_told_3_1 fu x1) e130:=by
 unfold infer_ask_told_3_1 e130
 have da:=d130_at
 conv=>arg 1;simp only[bodyOf,Tryz.f130]
 have z0:=d130_at
 exact Wk
theorem ok130(fu:Nat)(x1:Int)(r)(h:infer_ask_told_3_1 fu x1=some r):PureOK Tryz.prog 130 [.v (.int .i64 x1)] (e130 r):=pureT mixed [] (ids:=[]) rfl (by decide) i130 (C:=noC) (ci:=λcp=>noI) (λcp ok=>noI_ok) (λcp H=>w130 cp fu x1) h
open Aw (d128)
def d128_at:=by have h:=tabL Aw.d128.eq_1;simp only[AllAt,Nat.zero_add,Nat.reduceAdd]at h;exact h
theorem i128:finfo Tryz.prog 128 d128=some ⟨bodyOf Tryz.f128,[.tmp 2],[4]⟩:=finfo_at Tryz.func128 rfl (by kernel_rfl) (by kernel_rfl)
def e128:Bool->AV:=λr=> .v (.bool r)
structure K129 (fu:Nat) (cp:CallP):Prop where
 ap: ∀ {a0:List Int} {r},slices_ContainsFunc_int64 fu a0 (λy0=>infer_ask_told_3_1 fu y0)=some r->cp 129 [.arr a0.length (lm (ik .i64) a0),.fn 130 [] []]=some (.v (.bool r))
noncomputable def C129(fu:Nat):Cm Tryz.prog (List Int) Bool:=⟨129,λt=>[.arr t.length (lm (ik .i64) t),.fn 130 [] []],λt=>slices_ContainsFunc_int64 fu t (λy0=>infer_ask_told_3_1 fu y0),e129,λt b h=>ok129 fu t (λy0=>infer_ask_told_3_1 fu y0) 130 [] Capt.nil (λy0 r h=>ok130 fu y0 r h) b h,Zi⟩
theorem u129{fu:Nat}{cp:CallP}(H:Hit cp (C129 fu).ct):K129 fu cp:=⟨λ {a0 r} h=>(C129 fu).at H a0 r h⟩
set_option maxHeartbeats 20000000 in
theorem w128(cp:CallP)(fu:Nat)(x1:T_Val)(H1:K129 fu cp):J (go Tryz.prog noC cp noI 0 [] d128 fu (fin Tryz.prog [.tmp 2] [4]) (bodyOf Tryz.f128) (initE 0 [.agg (c_T_Val x1)]) [] []) (infer_ask_told_3 fu x1) e128:=by
 unfold infer_ask_told_3 e128
 have da:=d128_at
 conv=>arg 1;simp only[bodyOf,Tryz.f128]
 have z0:=d128_at
 exact Wk
theorem ok128(fu:Nat)(x1:T_Val)(r)(h:infer_ask_told_3 fu x1=some r):PureOK Tryz.prog 128 [.agg (c_T_Val x1)] (e128 r):=pureT mixed [(C129 fu).ct] (ids:=[129]) rfl (by decide) i128 (C:=noC) (ci:=λcp=>noI) (λcp ok=>noI_ok) (λcp H=>w128 cp fu x1 (u129 H.1)) h
open Aw (d71)
def d71_at:=by have h:=tabL Aw.d71.eq_1;simp only[AllAt,Nat.zero_add,Nat.reduceAdd]at h;exact h
theorem i71:finfo Tryz.prog 71 d71=some ⟨bodyOf Tryz.f71,[.tmp 2],[30]⟩:=finfo_at Tryz.func71 rfl (by kernel_rfl) (by kernel_rfl)
def e71:Int->AV:=λr=> .v (.int .i64 r)
set_option maxHeartbeats 20000000 in
theorem w71(cp:CallP)(fu:Nat)(x1:T_infer_ask)(H123_0: ∀ (a0:T_infer_ask) r,infer_ask_lists fu a0=some r→cp 123 [.agg (c_T_infer_ask a0)]=some (.fresh 8 r.length (fm c_T_Val r)))(H124_0: ∀ (a0:List T_Val) r,slices_ContainsFunc_api_Val_api_Val fu a0 (fun y0=>infer_ask_told_1 fu y0)=some r→cp 124 [.arr a0.length (fm c_T_Val a0),.fn 125 [] []]=some (.v (.bool r)))(H124_1: ∀ (a0:List T_Val) r,slices_ContainsFunc_api_Val_api_Val fu a0 (fun y0=>infer_ask_told_2 fu y0)=some r→cp 124 [.arr a0.length (fm c_T_Val a0),.fn 127 [] []]=some (.v (.bool r)))(H124_2: ∀ (a0:List T_Val) r,slices_ContainsFunc_api_Val_api_Val fu a0 (fun y0=>infer_ask_told_3 fu y0)=some r→cp 124 [.arr a0.length (fm c_T_Val a0),.fn 128 [] []]=some (.v (.bool r))):J (go Tryz.prog noC cp noI 0 [] d71 fu (fin Tryz.prog [.tmp 2] [30]) (bodyOf Tryz.f71) (initE 0 [.agg (c_T_infer_ask x1)]) [] []) (infer_ask_told fu x1) e71:=by
 unfold infer_ask_told e71
 have da:=d71_at
 refine J.bind λx2 h1=> ?_
 have e_h1:=H123_0 _ _ h1
 try simp only[NN,NT,LN,simprocAttr,DT]at e_h1
 conv=>arg 1;simp (disch:=first|exact Zd|fail) only[bodyOf,Tryz.f71,ZZ,d71_at,simprocAttr,e_h1]
 refine J.eq go_seq ?_
 refine J.bind λx3 h2=> ?_
 have e_h2:=H124_0 _ _ h2
 try simp only[NN,NT,LN,simprocAttr,DT]at e_h2
 refine Jc ?_
 refine J.ite (λh3=> ?_) (λh3=> ?_)
 ·have h3':x3=true:=h3
  refine J.some ?_
  exact Js
 ·have h3':x3=false:=Bool.eq_false_iff.2 h3
  refine J.bind λx4 h4=> ?_
  have e_h4:=H124_1 _ _ h4
  try simp only[NN,NT,LN,simprocAttr,DT]at e_h4
  refine Jc ?_
  refine J.ite (λh5=> ?_) (λh5=> ?_)
  ·have h5':x4=true:=h5
   refine J.some ?_
   exact Js
  ·have h5':x4=false:=Bool.eq_false_iff.2 h5
   refine Jc ?_
   refine J.eq go_seq ?_
   refine Jc ?_
   refine J.ite (λh6=> ?_) (λh6=> ?_)
   ·exact J.none
   ·have h6':=decide_eq_false h6
    refine J.bind λx5 h7=> ?_
    have e_h7:=H124_2 _ _ h7
    try simp only[NN,NT,LN,simprocAttr,DT]at e_h7
    refine Jc ?_
    refine J.eq ret_seq ?_
    refine Jc ?_
    refine J.ite (λh8=> ?_) (λh8=> ?_)
    ·have h8':x5=true:=h8
     refine J.some ?_
     exact Js
    ·have h8':x5=false:=Bool.eq_false_iff.2 h8
     refine Jc ?_
     refine J.eq ret_seq ?_
     refine J.some ?_
     exact Js
noncomputable def t71(fu:Nat):CallP:=orE 123 (mkC (λ(t:T_infer_ask)=>([.agg (c_T_infer_ask t)]:List AV)) (λt=>infer_ask_lists fu t) e123) (orE 124 (mkC (λ(t:List T_Val)=>([.arr t.length (fm c_T_Val t),.fn 125 [] []]:List AV)) (λt=>slices_ContainsFunc_api_Val_api_Val fu t (λy0=>infer_ask_told_1 fu y0)) e124) (orE 124 (mkC (λ(t:List T_Val)=>([.arr t.length (fm c_T_Val t),.fn 127 [] []]:List AV)) (λt=>slices_ContainsFunc_api_Val_api_Val fu t (λy0=>infer_ask_told_2 fu y0)) e124) (orE 124 (mkC (λ(t:List T_Val)=>([.arr t.length (fm c_T_Val t),.fn 128 [] []]:List AV)) (λt=>slices_ContainsFunc_api_Val_api_Val fu t (λy0=>infer_ask_told_3 fu y0)) e124) (noP))))
theorem t71_ok(fu:Nat):CpOK Tryz.prog (t71 fu):=orE_ok (orE_ok (orE_ok (orE_ok (noP_ok) (mkC_ok (λt b h=>ok124 fu t (λy0=>infer_ask_told_3 fu y0) 128 [] Capt.nil (λy0 r h=>ok128 fu y0 r h) b h))) (mkC_ok (λt b h=>ok124 fu t (λy0=>infer_ask_told_2 fu y0) 127 [] Capt.nil (λy0 r h=>ok127 fu y0 r h) b h))) (mkC_ok (λt b h=>ok124 fu t (λy0=>infer_ask_told_1 fu y0) 125 [] Capt.nil (λy0 r h=>ok125 fu y0 r h) b h))) (mkC_ok (λt b h=>ok123 fu t b h))
theorem ok71(fu:Nat)(x1:T_infer_ask)(r)(h:infer_ask_told fu x1=some r):PureOK Tryz.prog 71 [.agg (c_T_infer_ask x1)] (e71 r):=
  pure_J mixed (cp:=t71 fu) (t71_ok fu) noI_ok i71 (w71 _ fu x1 (λa0 r h=>orE_hit (mkC_at (a:=a0) (by intro a b h;first|(exact rfl)|(simp only[INJ,IJ]at h;first|exact h|(simp_all [Prod.ext_iff]))) h)) (λa0 r h=>orE_miss (by decide) (orE_hit (mkC_at (a:=a0) (by intro a b h;first|(exact rfl)|(simp only[INJ,IJ]at h;first|exact h|(simp_all [Prod.ext_iff]))) h))) (λa0 r h=>orE_miss (by decide) (orE_next (mkC_none (by intro t h;simp at h)) (orE_hit (mkC_at (a:=a0) (by intro a b h;first|(exact rfl)|(simp only[INJ,IJ]at h;first|exact h|(simp_all [Prod.ext_iff]))) h)))) (λa0 r h=>orE_miss (by decide) (orE_next (mkC_none (by intro t h;simp at h)) (orE_next (mkC_none (by intro t h;simp at h)) (orE_hit (mkC_at (a:=a0) (by intro a b h;first|(exact rfl)|(simp only[INJ,IJ]at h;first|exact h|(simp_all [Prod.ext_iff]))) h)))))) h
open Aw (d36)
def d36_at:=by have h:=tabL Aw.d36.eq_1;simp only[AllAt,Nat.zero_add,Nat.reduceAdd]at h;exact h
theorem i36:finfo Tryz.prog 36 d36=some ⟨bodyOf Tryz.f36,[.tmp 2],[30]⟩:=finfo_at Tryz.func36 rfl (by kernel_rfl) (by kernel_rfl)
def e36:Int->AV:=λr=> .v (.int .i64 r)
structure K69 (fu:Nat) (cp:CallP):Prop where
 ap: ∀ {a0:T_infer_ask} {r},infer_ask_typed fu a0=some r->cp 69 [.agg (c_T_infer_ask a0)]=some (.v (.bool r))
noncomputable def C69(fu:Nat):Cm Tryz.prog T_infer_ask Bool:=⟨69,λt=>[.agg (c_T_infer_ask t)],λt=>infer_ask_typed fu t,e69,λt b h=>ok69 fu t b h,Zi⟩
theorem u69{fu:Nat}{cp:CallP}(H:Hit cp (C69 fu).ct):K69 fu cp:=⟨λ {a0 r} h=>(C69 fu).at H a0 r h⟩
structure K70 (fu:Nat) (cp:CallP):Prop where
 ap: ∀ {a0:T_infer_ask} {r},infer_ask_attributes fu a0=some r->cp 70 [.agg (c_T_infer_ask a0)]=some (.v (.bool r))
noncomputable def C70(fu:Nat):Cm Tryz.prog T_infer_ask Bool:=⟨70,λt=>[.agg (c_T_infer_ask t)],λt=>infer_ask_attributes fu t,e70,λt b h=>ok70 fu t b h,Zi⟩
theorem u70{fu:Nat}{cp:CallP}(H:Hit cp (C70 fu).ct):K70 fu cp:=⟨λ {a0 r} h=>(C70 fu).at H a0 r h⟩
structure K71 (fu:Nat) (cp:CallP):Prop where
 ap: ∀ {a0:T_infer_ask} {r},infer_ask_told fu a0=some r->cp 71 [.agg (c_T_infer_ask a0)]=some (.v (.int .i64 r))
noncomputable def C71(fu:Nat):Cm Tryz.prog T_infer_ask Int:=⟨71,λt=>[.agg (c_T_infer_ask t)],λt=>infer_ask_told fu t,e71,λt b h=>ok71 fu t b h,Zi⟩
theorem u71{fu:Nat}{cp:CallP}(H:Hit cp (C71 fu).ct):K71 fu cp:=⟨λ {a0 r} h=>(C71 fu).at H a0 r h⟩
def infer_ask_wrong.m1:LJ 1 4 Unit Int:=⟨λr s e=>[(1,er e 1),(8,er e 8),(9,er e 9),(10,.v (.int .i64 s))],λr s h=>[((0,1,0),hr h (0,1,0))]⟩
def infer_ask_wrong.j1:LJ 1 5 Unit Unit:=⟨λr t e=>[(1,er e 1)],λr t h=>[((0,1,0),hr h (0,1,0))]⟩
set_option maxHeartbeats 20000000 in
open infer_ask_wrong in
theorem w36(cp:CallP)(fu:Nat)(x1:T_infer_ask)(H1:K32 fu cp)(H2:K68 fu cp)(H3:K69 fu cp)(H4:K70 fu cp)(H5:K71 fu cp):J (go Tryz.prog noC cp noI 0 [] d36 fu (fin Tryz.prog [.tmp 2] [30]) (bodyOf Tryz.f36) (initE 0 [.agg (c_T_infer_ask x1)]) [] []) (infer_ask_wrong fu x1) e36:=by
 unfold infer_ask_wrong e36
 have da:=d36_at
 conv=>arg 1;simp only[bodyOf,Tryz.f36]
 have z0:=d36_at
 exact Wk
theorem ok36(fu:Nat)(x1:T_infer_ask)(r)(h:infer_ask_wrong fu x1=some r):PureOK Tryz.prog 36 [.agg (c_T_infer_ask x1)] (e36 r):=pureT mixed [(C32 fu).ct,(C68 fu).ct,(C69 fu).ct,(C70 fu).ct,(C71 fu).ct] (ids:=[32,68,69,70,71]) rfl (by decide) i36 (C:=noC) (ci:=λcp=>noI) (λcp ok=>noI_ok) (λcp H=>w36 cp fu x1 (u32 H.1) (u68 H.2.1) (u69 H.2.2.1) (u70 H.2.2.2.1) (u71 H.2.2.2.2.1)) h
open Aw (d137)
def d137_at:=by have h:=tabL Aw.d137.eq_1;simp only[AllAt,Nat.zero_add,Nat.reduceAdd]at h;exact h
theorem i137:finfo Tryz.prog 137 d137=some ⟨bodyOf Tryz.f137,[.tmp 2],[3]⟩:=finfo_at Tryz.func137 rfl (by kernel_rfl) (by kernel_rfl)
def e137:Int->AV:=λr=> .v (.int .i64 r)
set_option maxHeartbeats 20000000 in
theorem w137(cp:CallP)(fu:Nat)(x1:T_infer_ask)(H1:K118 fu cp)(H2:K22 fu cp):J (go Tryz.prog noC cp noI 0 [] d137 fu (fin Tryz.prog [.tmp 2] [3]) (bodyOf Tryz.f137) (initE 0 [.agg (c_T_infer_ask x1)]) [] []) (infer_ask_axis fu x1) e137:=by
 unfold infer_ask_axis e137
 have da:=d137_at
 conv=>arg 1;simp only[bodyOf,Tryz.f137]
 have z0:=d137_at
 exact Wk
theorem ok137(fu:Nat)(x1:T_infer_ask)(r)(h:infer_ask_axis fu x1=some r):PureOK Tryz.prog 137 [.agg (c_T_infer_ask x1)] (e137 r):=pureT mixed [(C118 fu).ct,(C22 fu).ct] (ids:=[118,22]) rfl (by decide) i137 (C:=noC) (ci:=λcp=>noI) (λcp ok=>noI_ok) (λcp H=>w137 cp fu x1 (u118 H.1) (u22 H.2.1)) h
def d75:List (Nat×List Nat):=[(0,[0,1]),(0,[]),(0,[])]
def d75_at:=by have h:=tabL d75.eq_1;simp only[AllAt,Nat.zero_add,Nat.reduceAdd]at h;exact h
theorem i75:finfo Tryz.prog 75 d75=some ⟨bodyOf Tryz.f75,[.tmp 0,.tmp 1],[69,30]⟩:=finfo_at Tryz.func75 rfl (by kernel_rfl) (by kernel_rfl)
def e75:((List (List Int))×Int)->AV:=λr=> .tuple [.arr r.1.length (lm (avl (ik .i64)) r.1),.v (.int .i64 r.2)]
set_option maxHeartbeats 20000000 in
theorem w75(cp:CallP)(fu:Nat):J (go Tryz.prog noC cp noI 0 [] d75 fu (finS Tryz.prog [.tmp 0,.tmp 1] [69,30]) (bodyOf Tryz.f75) (initE 0 []) [] []) (infer_misfit fu) e75:=by
 unfold infer_misfit e75
 have da:=d75_at
 conv=>arg 1;simp only[bodyOf,Tryz.f75]
 have z0:=d75_at
 have z1:=SE
 exact Wk
theorem ok75(fu:Nat)(r)(h:infer_misfit fu=some r):PureOK Tryz.prog 75 [] (e75 r):=pureST mixed [] (ids:=[]) rfl (by decide) i75 (C:=noC) (ci:=λcp=>noI) (λcp ok=>noI_ok) (λcp H=>w75 cp fu) h
open Aw (d83)
def d83_at:=by have h:=tabL Aw.d83.eq_1;simp only[AllAt,Nat.zero_add,Nat.reduceAdd]at h;exact h
theorem i83:finfo Tryz.prog 83 d83=some ⟨bodyOf Tryz.f83,[.tmp 2,.tmp 3],[69,30]⟩:=finfo_at Tryz.func83 rfl (by kernel_rfl) (by kernel_rfl)
def e83:((List (List Int))×Int)->AV:=λr=> .tuple [.arr r.1.length (lm (avl (ik .i64)) r.1),.v (.int .i64 r.2)]
set_option maxHeartbeats 20000000 in
theorem w83(cp:CallP)(fu:Nat)(x1:List Int):J (go Tryz.prog noC cp noI 0 [] d83 fu (finS Tryz.prog [.tmp 2,.tmp 3] [69,30]) (bodyOf Tryz.f83) (initE 0 [.arr x1.length (lm (ik .i64) x1)]) [] []) (infer_one fu x1) e83:=by
 unfold infer_one e83
 have da:=d83_at
 conv=>arg 1;simp only[bodyOf,Tryz.f83]
 have z0:=d83_at
 have z1:=SE
 exact Wk
theorem ok83(fu:Nat)(x1:List Int)(r)(h:infer_one fu x1=some r):PureOK Tryz.prog 83 [.arr x1.length (lm (ik .i64) x1)] (e83 r):=pureST mixed [] (ids:=[]) rfl (by decide) i83 (C:=noC) (ci:=λcp=>noI) (λcp ok=>noI_ok) (λcp H=>w83 cp fu x1) h
open Aw (d139)
def d139_at:=by have h:=tabL Aw.d139.eq_1;simp only[AllAt,Nat.zero_add,Nat.reduceAdd]at h;exact h
theorem i139:finfo Tryz.prog 139 d139=some ⟨bodyOf Tryz.f139,[.tmp 4,.tmp 5],[69,30]⟩:=finfo_at Tryz.func139 rfl (by kernel_rfl) (by kernel_rfl)
def e139:((List (List Int))×Int)->AV:=λr=> .tuple [.arr r.1.length (lm (avl (ik .i64)) r.1),.v (.int .i64 r.2)]
structure K137 (fu:Nat) (cp:CallP):Prop where
 ap: ∀ {a0:T_infer_ask} {r},infer_ask_axis fu a0=some r->cp 137 [.agg (c_T_infer_ask a0)]=some (.v (.int .i64 r))
noncomputable def C137(fu:Nat):Cm Tryz.prog T_infer_ask Int:=⟨137,λt=>[.agg (c_T_infer_ask t)],λt=>infer_ask_axis fu t,e137,λt b h=>ok137 fu t b h,Zi⟩
theorem u137{fu:Nat}{cp:CallP}(H:Hit cp (C137 fu).ct):K137 fu cp:=⟨λ {a0 r} h=>(C137 fu).at H a0 r h⟩
structure K75 (fu:Nat) (cp:CallP):Prop where
 ap: ∀ {r},infer_misfit fu=some r->cp 75 []=some (.tuple [.arr r.1.length (lm (avl (ik .i64)) r.1),.v (.int .i64 r.2)])
noncomputable def C75(fu:Nat):Cm Tryz.prog Unit ((List (List Int))×Int):=⟨75,λt=>[],λt=>infer_misfit fu,e75,λt b h=>ok75 fu b h,Zi⟩
theorem u75{fu:Nat}{cp:CallP}(H:Hit cp (C75 fu).ct):K75 fu cp:=⟨λ {r} h=>(C75 fu).at H () r h⟩
structure K83 (fu:Nat) (cp:CallP):Prop where
 ap: ∀ {a0:List Int} {r},infer_one fu a0=some r->cp 83 [.arr a0.length (lm (ik .i64) a0)]=some (.tuple [.arr r.1.length (lm (avl (ik .i64)) r.1),.v (.int .i64 r.2)])
noncomputable def C83(fu:Nat):Cm Tryz.prog (List Int) ((List (List Int))×Int):=⟨83,λt=>[.arr t.length (lm (ik .i64) t)],λt=>infer_one fu t,e83,λt b h=>ok83 fu t b h,Zi⟩
theorem u83{fu:Nat}{cp:CallP}(H:Hit cp (C83 fu).ct):K83 fu cp:=⟨λ {a0 r} h=>(C83 fu).at H a0 r h⟩
def infer_ask_picked.m1:LJ 1 10 Unit Int:=⟨λr s e=>[(1,er e 1),(2,er e 2),(6,er e 6),(7,er e 7),(22,er e 22),(23,.v (.int .i64 s))],λr s h=>[((0,2,0),hr h (0,2,0))]⟩
def infer_ask_picked.j1:LJ 1 20 Unit Unit:=⟨λr t e=>[(1,er e 1)],λr t h=>[((0,2,0),hr h (0,2,0))]⟩
set_option maxHeartbeats 20000000 in
open infer_ask_picked in
theorem w139(cp:CallP)(fu:Nat)(x1:T_infer_ask)(x2:List Int)(H1:K72 fu cp)(H2:K137 fu cp)(H3:K75 fu cp)(H4:K83 fu cp):J (go Tryz.prog noC cp noI 0 [] d139 fu (fin Tryz.prog [.tmp 4,.tmp 5] [69,30]) (bodyOf Tryz.f139) (initE 0 [.agg (c_T_infer_ask x1),.arr x2.length (lm (ik .i64) x2)]) [] []) (infer_ask_picked fu x1 x2) e139:=by
 unfold infer_ask_picked e139
 have da:=d139_at
 conv=>arg 1;simp only[bodyOf,Tryz.f139]
 have z0:=d139_at
 exact Wk
theorem ok139(fu:Nat)(x1:T_infer_ask)(x2:List Int)(r)(h:infer_ask_picked fu x1 x2=some r):PureOK Tryz.prog 139 [.agg (c_T_infer_ask x1),.arr x2.length (lm (ik .i64) x2)] (e139 r):=pureT mixed [(C72 fu).ct,(C137 fu).ct,(C75 fu).ct,(C83 fu).ct] (ids:=[72,137,75,83]) rfl (by decide) i139 (C:=noC) (ci:=λcp=>noI) (λcp ok=>noI_ok) (λcp H=>w139 cp fu x1 x2 (u72 H.1) (u137 H.2.1) (u75 H.2.2.1) (u83 H.2.2.2.1)) h
open Aw (d76)
def d76_at:=by have h:=tabL Aw.d76.eq_1;simp only[AllAt,Nat.zero_add,Nat.reduceAdd]at h;exact h
theorem i76:finfo Tryz.prog 76 d76=some ⟨bodyOf Tryz.f76,[.tmp 2,.tmp 3],[69,30]⟩:=finfo_at Tryz.func76 rfl (by kernel_rfl) (by kernel_rfl)
def e76:((List (List Int))×Int)->AV:=λr=> .tuple [.arr r.1.length (lm (avl (ik .i64)) r.1),.v (.int .i64 r.2)]
structure K139 (fu:Nat) (cp:CallP):Prop where
 ap: ∀ {a0:T_infer_ask} {a1:List Int} {r},infer_ask_picked fu a0 a1=some r->cp 139 [.agg (c_T_infer_ask a0),.arr a1.length (lm (ik .i64) a1)]=some (.tuple [.arr r.1.length (lm (avl (ik .i64)) r.1),.v (.int .i64 r.2)])
noncomputable def C139(fu:Nat):Cm Tryz.prog (T_infer_ask×(List Int)) ((List (List Int))×Int):=⟨139,λt=>[.agg (c_T_infer_ask t.1),.arr t.2.length (lm (ik .i64) t.2)],λt=>infer_ask_picked fu t.1 t.2,e139,λt b h=>ok139 fu t.1 t.2 b h,Zi⟩
theorem u139{fu:Nat}{cp:CallP}(H:Hit cp (C139 fu).ct):K139 fu cp:=⟨λ {a0 a1 r} h=>(C139 fu).at H (a0,a1) r h⟩
set_option maxHeartbeats 20000000 in
theorem w76(cp:CallP)(fu:Nat)(x1:T_infer_ask)(H1:K72 fu cp)(H2:K139 fu cp)(H3:K132 fu cp)(H4:K75 fu cp):J (go Tryz.prog noC cp noI 0 [] d76 fu (fin Tryz.prog [.tmp 2,.tmp 3] [69,30]) (bodyOf Tryz.f76) (initE 0 [.agg (c_T_infer_ask x1)]) [] []) (infer_ask_moved fu x1) e76:=by
 unfold infer_ask_moved e76
 have da:=d76_at
 conv=>arg 1;simp only[bodyOf,Tryz.f76]
 have z0:=d76_at
 exact Wk
theorem ok76(fu:Nat)(x1:T_infer_ask)(r)(h:infer_ask_moved fu x1=some r):PureOK Tryz.prog 76 [.agg (c_T_infer_ask x1)] (e76 r):=pureT mixed [(C72 fu).ct,(C139 fu).ct,(C132 fu).ct,(C75 fu).ct] (ids:=[72,139,132,75]) rfl (by decide) i76 (C:=noC) (ci:=λcp=>noI) (λcp ok=>noI_ok) (λcp H=>w76 cp fu x1 (u72 H.1) (u139 H.2.1) (u132 H.2.2.1) (u75 H.2.2.2.1)) h
open Aw (d37)
def d37_at:=by have h:=tabL Aw.d37.eq_1;simp only[AllAt,Nat.zero_add,Nat.reduceAdd]at h;exact h
theorem i37:finfo Tryz.prog 37 d37=some ⟨bodyOf Tryz.f37,[.tmp 2,.tmp 3],[69,30]⟩:=finfo_at Tryz.func37 rfl (by kernel_rfl) (by kernel_rfl)
def e37:((List (List Int))×Int)->AV:=λr=> .tuple [.arr r.1.length (lm (avl (ik .i64)) r.1),.v (.int .i64 r.2)]
structure K76 (fu:Nat) (cp:CallP):Prop where
 ap: ∀ {a0:T_infer_ask} {r},infer_ask_moved fu a0=some r->cp 76 [.agg (c_T_infer_ask a0)]=some (.tuple [.arr r.1.length (lm (avl (ik .i64)) r.1),.v (.int .i64 r.2)])
noncomputable def C76(fu:Nat):Cm Tryz.prog T_infer_ask ((List (List Int))×Int):=⟨76,λt=>[.agg (c_T_infer_ask t)],λt=>infer_ask_moved fu t,e76,λt b h=>ok76 fu t b h,Zi⟩
theorem u76{fu:Nat}{cp:CallP}(H:Hit cp (C76 fu).ct):K76 fu cp:=⟨λ {a0 r} h=>(C76 fu).at H a0 r h⟩
def infer_ask_shapes.j2:LJ 2 190 Unit Unit:=⟨λr t e=>[(1,er e 1),(4,er e 4),(9,er e 9),(10,er e 10),(54,.v (.bool true))],λr t h=>[((0,1,0),hr h (0,1,0))]⟩
def infer_ask_shapes.j1:LJ 1 82 T_infer_ask Unit:=⟨λr t e=>[(1,er e 1),(4,er e 4),(9,er e 9),(10,.v (.bool (decide (r.fop=42))))],λr t h=>[((0,1,0),hr h (0,1,0))]⟩
set_option maxHeartbeats 20000000 in
open infer_ask_shapes in
theorem w37(cp:CallP)(fu:Nat)(x1:T_infer_ask)(H1:K72 fu cp)(H2:K76 fu cp):J (go Tryz.prog noC cp noI 0 [] d37 fu (finS Tryz.prog [.tmp 2,.tmp 3] [69,30]) (bodyOf Tryz.f37) (initE 0 [.agg (c_T_infer_ask x1)]) [] []) (infer_ask_shapes fu x1) e37:=by
 unfold infer_ask_shapes e37
 have da:=d37_at
 conv=>arg 1;simp only[bodyOf,Tryz.f37]
 have z0:=d37_at
 have z1:=SE
 exact Wk
theorem ok37(fu:Nat)(x1:T_infer_ask)(r)(h:infer_ask_shapes fu x1=some r):PureOK Tryz.prog 37 [.agg (c_T_infer_ask x1)] (e37 r):=pureST mixed [(C72 fu).ct,(C76 fu).ct] (ids:=[72,76]) rfl (by decide) i37 (C:=noC) (ci:=λcp=>noI) (λcp ok=>noI_ok) (λcp H=>w37 cp fu x1 (u72 H.1) (u76 H.2.1)) h
open Aw (d38)
def d38_at:=by have h:=tabL Aw.d38.eq_1;simp only[AllAt,Nat.zero_add,Nat.reduceAdd]at h;exact h
theorem i38:finfo Tryz.prog 38 d38=some ⟨bodyOf Tryz.f38,[.tmp 2],[3]⟩:=finfo_at Tryz.func38 rfl (by kernel_rfl) (by kernel_rfl)
def e38:Int->AV:=λr=> .v (.int .i64 r)
def infer_ask_out.j3:LJ 3 74 T_infer_ask Unit:=⟨λr t e=>[(1,er e 1),(4,er e 4),(5,er e 5),(17,.v (.bool (decide (r.fop=71))))],λr t h=>[((0,1,0),hr h (0,1,0))]⟩
def infer_ask_out.j2:LJ 2 54 T_infer_ask Unit:=⟨λr t e=>[(1,er e 1),(4,er e 4),(5,.v (.bool (decide (r.fop=41))))],λr t h=>[((0,1,0),hr h (0,1,0))]⟩
def infer_ask_out.j1:LJ 1 50 Unit Unit:=⟨λr t e=>[(1,er e 1)],λr t h=>[((0,1,0),hr h (0,1,0))]⟩
set_option maxHeartbeats 20000000 in
open infer_ask_out in
theorem w38(cp:CallP)(fu:Nat)(x1:T_infer_ask)(H1:K84 fu cp):J (go Tryz.prog noC cp noI 0 [] d38 fu (fin Tryz.prog [.tmp 2] [3]) (bodyOf Tryz.f38) (initE 0 [.agg (c_T_infer_ask x1)]) [] []) (infer_ask_out fu x1) e38:=by
 unfold infer_ask_out e38
 have da:=d38_at
 conv=>arg 1;simp only[bodyOf,Tryz.f38]
 have z0:=d38_at
 exact Wk
theorem ok38(fu:Nat)(x1:T_infer_ask)(r)(h:infer_ask_out fu x1=some r):PureOK Tryz.prog 38 [.agg (c_T_infer_ask x1)] (e38 r):=pureT mixed [(C84 fu).ct] (ids:=[84]) rfl (by decide) i38 (C:=noC) (ci:=λcp=>noI) (λcp ok=>noI_ok) (λcp H=>w38 cp fu x1 (u84 H.1)) h
open Aw (d20)
def d20_at:=by have h:=tabL Aw.d20.eq_1;simp only[AllAt,Nat.zero_add,Nat.reduceAdd]at h;exact h
theorem i20:finfo Tryz.prog 20 d20=some ⟨bodyOf Tryz.f20,[.tmp 8,.tmp 9],[53,30]⟩:=finfo_at Tryz.func20 rfl (by kernel_rfl) (by kernel_rfl)
def e20:((List T_Val)×Int)->AV:=λr=> .tuple [.arr r.1.length (fm c_T_Val r.1),.v (.int .i64 r.2)]
structure K35 (fu:Nat) (cp:CallP):Prop where
 ap: ∀ {a0:T_infer_ask} {r},infer_ask_complete fu a0=some r->cp 35 [.agg (c_T_infer_ask a0)]=some (.v (.bool r))
noncomputable def C35(fu:Nat):Cm Tryz.prog T_infer_ask Bool:=⟨35,λt=>[.agg (c_T_infer_ask t)],λt=>infer_ask_complete fu t,e35,λt b h=>ok35 fu t b h,Zi⟩
theorem u35{fu:Nat}{cp:CallP}(H:Hit cp (C35 fu).ct):K35 fu cp:=⟨λ {a0 r} h=>(C35 fu).at H a0 r h⟩
structure K36 (fu:Nat) (cp:CallP):Prop where
 ap: ∀ {a0:T_infer_ask} {r},infer_ask_wrong fu a0=some r->cp 36 [.agg (c_T_infer_ask a0)]=some (.v (.int .i64 r))
noncomputable def C36(fu:Nat):Cm Tryz.prog T_infer_ask Int:=⟨36,λt=>[.agg (c_T_infer_ask t)],λt=>infer_ask_wrong fu t,e36,λt b h=>ok36 fu t b h,Zi⟩
theorem u36{fu:Nat}{cp:CallP}(H:Hit cp (C36 fu).ct):K36 fu cp:=⟨λ {a0 r} h=>(C36 fu).at H a0 r h⟩
structure K37 (fu:Nat) (cp:CallP):Prop where
 ap: ∀ {a0:T_infer_ask} {r},infer_ask_shapes fu a0=some r->cp 37 [.agg (c_T_infer_ask a0)]=some (.tuple [.arr r.1.length (lm (avl (ik .i64)) r.1),.v (.int .i64 r.2)])
noncomputable def C37(fu:Nat):Cm Tryz.prog T_infer_ask ((List (List Int))×Int):=⟨37,λt=>[.agg (c_T_infer_ask t)],λt=>infer_ask_shapes fu t,e37,λt b h=>ok37 fu t b h,Zi⟩
theorem u37{fu:Nat}{cp:CallP}(H:Hit cp (C37 fu).ct):K37 fu cp:=⟨λ {a0 r} h=>(C37 fu).at H a0 r h⟩
structure K38 (fu:Nat) (cp:CallP):Prop where
 ap: ∀ {a0:T_infer_ask} {r},infer_ask_out fu a0=some r->cp 38 [.agg (c_T_infer_ask a0)]=some (.v (.int .i64 r))
noncomputable def C38(fu:Nat):Cm Tryz.prog T_infer_ask Int:=⟨38,λt=>[.agg (c_T_infer_ask t)],λt=>infer_ask_out fu t,e38,λt b h=>ok38 fu t b h,Zi⟩
theorem u38{fu:Nat}{cp:CallP}(H:Hit cp (C38 fu).ct):K38 fu cp:=⟨λ {a0 r} h=>(C38 fu).at H a0 r h⟩
def infer_Node.m1:LJ 1 24 Unit ((List T_Val)×Int):=⟨λr s e=>[(10,er e 10),(14,.own (0,14,77) 0 s.1.length s.1.length),(40,er e 40),(41,er e 41),(42,.v (.int .i64 s.2))],λr s h=>[((0,10,0),hr h (0,10,0)),((0,14,77),.sl true true 8 s.1.length (fm c_T_Val s.1))]⟩
set_option maxHeartbeats 20000000 in
open infer_Node in
theorem w20(cp:CallP)(fu:Nat)(x1:Int)(x2:T_Setting)(x3:List T_Val)(x4:Int)(H1:K35 fu cp)(H2:K36 fu cp)(H3:K37 fu cp)(H4:K32 fu cp)(H5:K38 fu cp)(H6:K39 fu cp):J (go Tryz.prog noC cp noI 0 [] d20 fu (finS Tryz.prog [.tmp 8,.tmp 9] [53,30]) (bodyOf Tryz.f20) (initE 0 [.v (.int .i64 x1),.agg (c_T_Setting x2),.arr x3.length (fm c_T_Val x3),.v (.int .i64 x4)]) [] []) (infer_Node fu x1 x2 x3 x4) e20:=by
 unfold infer_Node e20
 have da:=d20_at
 conv=>arg 1;simp only[bodyOf,Tryz.f20]
 have z0:=d20_at
 have z1:=SE
 exact Wk
theorem ok20(fu:Nat)(x1:Int)(x2:T_Setting)(x3:List T_Val)(x4:Int)(r)(h:infer_Node fu x1 x2 x3 x4=some r):PureOK Tryz.prog 20 [.v (.int .i64 x1),.agg (c_T_Setting x2),.arr x3.length (fm c_T_Val x3),.v (.int .i64 x4)] (e20 r):=pureST mixed [(C35 fu).ct,(C36 fu).ct,(C37 fu).ct,(C32 fu).ct,(C38 fu).ct,(C39 fu).ct] (ids:=[35,36,37,32,38,39]) rfl (by decide) i20 (C:=noC) (ci:=λcp=>noI) (λcp ok=>noI_ok) (λcp H=>w20 cp fu x1 x2 x3 x4 (u35 H.1) (u36 H.2.1) (u37 H.2.2.1) (u32 H.2.2.2.1) (u38 H.2.2.2.2.1) (u39 H.2.2.2.2.2.1)) h
open Aw (d40)
def d40_at:=by have h:=tabL Aw.d40.eq_1;simp only[AllAt,Nat.zero_add,Nat.reduceAdd]at h;exact h
theorem i40:finfo Tryz.prog 40 d40=some ⟨bodyOf Tryz.f40,[.tmp 4],[3]⟩:=finfo_at Tryz.func40 rfl (by kernel_rfl) (by kernel_rfl)
def e40:Int->AV:=λr=> .v (.int .i64 r)
def moves_wrapped.j1:LJ 1 6 Unit Int:=⟨λr t e=>[(0,.v (.int .i64 t)),(1,er e 1)],λr t h=>[]⟩
set_option maxHeartbeats 20000000 in
open moves_wrapped in
theorem w40(cp:CallP)(fu:Nat)(x1:Int)(x2:Int):J (go Tryz.prog noC cp noI 0 [] d40 fu (fin Tryz.prog [.tmp 4] [3]) (bodyOf Tryz.f40) (initE 0 [.v (.int .i64 x1),.v (.int .i64 x2)]) [] []) (moves_wrapped fu x1 x2) e40:=by
 unfold moves_wrapped e40
 have da:=d40_at
 conv=>arg 1;simp only[bodyOf,Tryz.f40]
 have z0:=d40_at
 exact Wk
theorem ok40(fu:Nat)(x1:Int)(x2:Int)(r)(h:moves_wrapped fu x1 x2=some r):PureOK Tryz.prog 40 [.v (.int .i64 x1),.v (.int .i64 x2)] (e40 r):=pureT mixed [] (ids:=[]) rfl (by decide) i40 (C:=noC) (ci:=λcp=>noI) (λcp ok=>noI_ok) (λcp H=>w40 cp fu x1 x2) h
open Aw (d23)
def d23_at:=by have h:=tabL Aw.d23.eq_1;simp only[AllAt,Nat.zero_add,Nat.reduceAdd]at h;exact h
theorem i23:finfo Tryz.prog 23 d23=some ⟨bodyOf Tryz.f23,[.tmp 2,.tmp 3],[22,4]⟩:=finfo_at Tryz.func23 rfl (by kernel_rfl) (by kernel_rfl)
def e23:((List Int)×Bool)->AV:=λr=> .tuple [.fresh 1 r.1.length (lm (ik .i64) r.1),.v (.bool r.2)]
structure K40 (fu:Nat) (cp:CallP):Prop where
 ap: ∀ {a0:Int} {a1:Int} {r},moves_wrapped fu a0 a1=some r->cp 40 [.v (.int .i64 a0),.v (.int .i64 a1)]=some (.v (.int .i64 r))
noncomputable def C40(fu:Nat):Cm Tryz.prog (Int×Int) Int:=⟨40,λt=>[.v (.int .i64 t.1),.v (.int .i64 t.2)],λt=>moves_wrapped fu t.1 t.2,e40,λt b h=>ok40 fu t.1 t.2 b h,Zi⟩
theorem u40{fu:Nat}{cp:CallP}(H:Hit cp (C40 fu).ct):K40 fu cp:=⟨λ {a0 a1 r} h=>(C40 fu).at H (a0,a1) r h⟩
def moves_move_named.m1:LJ 1 6 Unit ((List Int)×Int):=⟨λr s e=>[(0,er e 0),(4,.own (0,4,77) 0 s.1.length s.1.length),(14,er e 14),(15,er e 15),(16,.v (.int .i64 s.2))],λr s h=>[((0,4,77),.sl true true 1 s.1.length (lm (ik .i64) s.1))]⟩
set_option maxHeartbeats 20000000 in
open moves_move_named in
theorem w23(cp:CallP)(fu:Nat)(x1:T_moves_move)(H1:K40 fu cp):J (go Tryz.prog noC cp noI 0 [] d23 fu (fin Tryz.prog [.tmp 2,.tmp 3] [22,4]) (bodyOf Tryz.f23) (initE 0 [.ref (c_T_moves_move x1) 0]) [] []) (moves_move_named fu x1) e23:=by
 unfold moves_move_named e23
 have da:=d23_at
 conv=>arg 1;simp only[bodyOf,Tryz.f23]
 have z0:=d23_at
 exact Wk
theorem ok23(fu:Nat)(x1:T_moves_move)(r)(h:moves_move_named fu x1=some r):PureOK Tryz.prog 23 [.ref (c_T_moves_move x1) 0] (e23 r):=pureT mixed [(C40 fu).ct] (ids:=[40]) rfl (by decide) i23 (C:=noC) (ci:=λcp=>noI) (λcp ok=>noI_ok) (λcp H=>w23 cp fu x1 (u40 H.1)) h
open Aw (d147)
def d147_at:=by have h:=tabL Aw.d147.eq_1;simp only[AllAt,Nat.zero_add,Nat.reduceAdd]at h;exact h
theorem i147:finfo Tryz.prog 147 d147=some ⟨bodyOf Tryz.f147,[.tmp 2],[22]⟩:=finfo_at Tryz.func147 rfl (by kernel_rfl) (by kernel_rfl)
def e147:(List Int)->AV:=λr=> .fresh 1 r.length (lm (ik .i64) r)
def shape_strides.m1:LJ 1 8 Unit ((List Int)×Int×Int):=⟨λr s e=>[(0,er e 0),(3,.own (0,8,0) 0 s.1.length s.1.length),(4,.v (.int .i64 s.2.1)),(5,.v (.int .i64 s.2.2))],λr s h=>[((0,8,0),.sl true true 1 s.1.length (lm (ik .i64) s.1))]⟩
set_option maxHeartbeats 20000000 in
open shape_strides in
theorem w147(cp:CallP)(fu:Nat)(x1:List Int):J (go Tryz.prog noC cp noI 0 [] d147 fu (fin Tryz.prog [.tmp 2] [22]) (bodyOf Tryz.f147) (initE 0 [.arr x1.length (lm (ik .i64) x1)]) [] []) (shape_strides fu x1) e147:=by
 unfold shape_strides e147
 have da:=d147_at
 conv=>arg 1;simp only[bodyOf,Tryz.f147]
 have z0:=d147_at
 exact Wk
theorem ok147(fu:Nat)(x1:List Int)(r)(h:shape_strides fu x1=some r):PureOK Tryz.prog 147 [.arr x1.length (lm (ik .i64) x1)] (e147 r):=pureT mixed [] (ids:=[]) rfl (by decide) i147 (C:=noC) (ci:=λcp=>noI) (λcp ok=>noI_ok) (λcp H=>w147 cp fu x1) h
open Aw (d85)
def d85_at:=by have h:=tabL Aw.d85.eq_1;simp only[AllAt,Nat.zero_add,Nat.reduceAdd]at h;exact h
theorem i85:finfo Tryz.prog 85 d85=some ⟨bodyOf Tryz.f85,[.tmp 2,.tmp 3],[22,30]⟩:=finfo_at Tryz.func85 rfl (by kernel_rfl) (by kernel_rfl)
def e85:((List Int)×Int)->AV:=λr=> .tuple [.fresh 1 r.1.length (lm (ik .i64) r.1),.v (.int .i64 r.2)]
structure K147 (fu:Nat) (cp:CallP):Prop where
 ap: ∀ {a0:List Int} {r},shape_strides fu a0=some r->cp 147 [.arr a0.length (lm (ik .i64) a0)]=some (.fresh 1 r.length (lm (ik .i64) r))
noncomputable def C147(fu:Nat):Cm Tryz.prog (List Int) (List Int):=⟨147,λt=>[.arr t.length (lm (ik .i64) t)],λt=>shape_strides fu t,e147,λt b h=>ok147 fu t b h,Zi⟩
theorem u147{fu:Nat}{cp:CallP}(H:Hit cp (C147 fu).ct):K147 fu cp:=⟨λ {a0 r} h=>(C147 fu).at H a0 r h⟩
set_option maxHeartbeats 20000000 in
theorem w85(cp:CallP)(fu:Nat)(x1:List Int)(H1:K32 fu cp)(H2:K147 fu cp):J (go Tryz.prog noC cp noI 0 [] d85 fu (fin Tryz.prog [.tmp 2,.tmp 3] [22,30]) (bodyOf Tryz.f85) (initE 0 [.arr x1.length (lm (ik .i64) x1)]) [] []) (shape_Strides fu x1) e85:=by
 unfold shape_Strides e85
 have da:=d85_at
 conv=>arg 1;simp only[bodyOf,Tryz.f85]
 have z0:=d85_at
 exact Wk
theorem ok85(fu:Nat)(x1:List Int)(r)(h:shape_Strides fu x1=some r):PureOK Tryz.prog 85 [.arr x1.length (lm (ik .i64) x1)] (e85 r):=pureT mixed [(C32 fu).ct,(C147 fu).ct] (ids:=[32,147]) rfl (by decide) i85 (C:=noC) (ci:=λcp=>noI) (λcp ok=>noI_ok) (λcp H=>w85 cp fu x1 (u32 H.1) (u147 H.2.1)) h
open Aw (d41)
def d41_at:=by have h:=tabL Aw.d41.eq_1;simp only[AllAt,Nat.zero_add,Nat.reduceAdd]at h;exact h
theorem i41:finfo Tryz.prog 41 d41=some ⟨bodyOf Tryz.f41,[.tmp 2],[22]⟩:=finfo_at Tryz.func41 rfl (by kernel_rfl) (by kernel_rfl)
def e41:(List Int)->AV:=λr=> .fresh 1 r.length (lm (ik .i64) r)
structure K85 (fu:Nat) (cp:CallP):Prop where
 ap: ∀ {a0:List Int} {r},shape_Strides fu a0=some r->cp 85 [.arr a0.length (lm (ik .i64) a0)]=some (.tuple [.fresh 1 r.1.length (lm (ik .i64) r.1),.v (.int .i64 r.2)])
noncomputable def C85(fu:Nat):Cm Tryz.prog (List Int) ((List Int)×Int):=⟨85,λt=>[.arr t.length (lm (ik .i64) t)],λt=>shape_Strides fu t,e85,λt b h=>ok85 fu t b h,Zi⟩
theorem u85{fu:Nat}{cp:CallP}(H:Hit cp (C85 fu).ct):K85 fu cp:=⟨λ {a0 r} h=>(C85 fu).at H a0 r h⟩
set_option maxHeartbeats 20000000 in
theorem w41(cp:CallP)(fu:Nat)(x1:List Int)(H1:K85 fu cp):J (go Tryz.prog noC cp noI 0 [] d41 fu (fin Tryz.prog [.tmp 2] [22]) (bodyOf Tryz.f41) (initE 0 [.arr x1.length (lm (ik .i64) x1)]) [] []) (moves_strides fu x1) e41:=by
 unfold moves_strides e41
 have da:=d41_at
 conv=>arg 1;simp only[bodyOf,Tryz.f41]
 have z0:=d41_at
 exact Wk
theorem ok41(fu:Nat)(x1:List Int)(r)(h:moves_strides fu x1=some r):PureOK Tryz.prog 41 [.arr x1.length (lm (ik .i64) x1)] (e41 r):=pureT mixed [(C85 fu).ct] (ids:=[85]) rfl (by decide) i41 (C:=noC) (ci:=λcp=>noI) (λcp ok=>noI_ok) (λcp H=>w41 cp fu x1 (u85 H.1)) h
open Aw (d44)
def d44_at:=by have h:=tabL Aw.d44.eq_1;simp only[AllAt,Nat.zero_add,Nat.reduceAdd]at h;exact h
theorem i44:finfo Tryz.prog 44 d44=some ⟨bodyOf Tryz.f44,[.tmp 4],[3]⟩:=finfo_at Tryz.func44 rfl (by kernel_rfl) (by kernel_rfl)
def e44:Int->AV:=λr=> .v (.int .i64 r)
def moves_dot.m1:LJ 1 6 Unit (Int×Int):=⟨λr s e=>[(0,er e 0),(5,.v (.int .i64 s.1)),(8,er e 8),(9,er e 9),(10,.v (.int .i64 s.2))],λr s h=>[]⟩
set_option maxHeartbeats 20000000 in
open moves_dot in
theorem w44(cp:CallP)(fu:Nat)(x1:List Int)(x2:List Int):J (go Tryz.prog noC cp noI 0 [] d44 fu (fin Tryz.prog [.tmp 4] [3]) (bodyOf Tryz.f44) (initE 0 [.arr x1.length (lm (ik .i64) x1),.arr x2.length (lm (ik .i64) x2)]) [] []) (moves_dot fu x1 x2) e44:=by
 unfold moves_dot e44
 have da:=d44_at
 conv=>arg 1;simp only[bodyOf,Tryz.f44]
 have z0:=d44_at
 exact Wk
theorem ok44(fu:Nat)(x1:List Int)(x2:List Int)(r)(h:moves_dot fu x1 x2=some r):PureOK Tryz.prog 44 [.arr x1.length (lm (ik .i64) x1),.arr x2.length (lm (ik .i64) x2)] (e44 r):=pureT mixed [] (ids:=[]) rfl (by decide) i44 (C:=noC) (ci:=λcp=>noI) (λcp ok=>noI_ok) (λcp H=>w44 cp fu x1 x2) h
open Aw (d86)
def d86_at:=by have h:=tabL Aw.d86.eq_1;simp only[AllAt,Nat.zero_add,Nat.reduceAdd]at h;exact h
noncomputable def b86:Code:=bodyOf Tryz.f86
theorem go_b86{C:Cfg}{cp:CallP}{ci:CallI}{lvl:Nat}{prot:List Id}{D:List (Nat×List Nat)}{n:Nat}{K:KK}{e:Env}{h:Heap}{fs:List Fr}:go Tryz.prog C cp ci lvl prot D n K b86 e h fs=go Tryz.prog C cp ci lvl prot D n K (bodyOf Tryz.f86) e h fs:=rfl
theorem i86:finfo Tryz.prog 86 d86=some ⟨b86,[],[]⟩:=finfo_at Tryz.func86 rfl (by kernel_rfl) (by kernel_rfl)
open Aw (d103)
def d103_at:=by have h:=tabL Aw.d103.eq_1;simp only[AllAt,Nat.zero_add,Nat.reduceAdd]at h;exact h
noncomputable def b103:Code:=bodyOf Tryz.f103
theorem go_b103{C:Cfg}{cp:CallP}{ci:CallI}{lvl:Nat}{prot:List Id}{D:List (Nat×List Nat)}{n:Nat}{K:KK}{e:Env}{h:Heap}{fs:List Fr}:go Tryz.prog C cp ci lvl prot D n K b103 e h fs=go Tryz.prog C cp ci lvl prot D n K (bodyOf Tryz.f103) e h fs:=rfl
theorem i103:finfo Tryz.prog 103 d103=some ⟨b103,[],[]⟩:=finfo_at Tryz.func103 rfl (by kernel_rfl) (by kernel_rfl)
open Aw (d50)
def d50_at:=by have h:=tabL Aw.d50.eq_1;simp only[AllAt,Nat.zero_add,Nat.reduceAdd]at h;exact h
theorem i50:finfo Tryz.prog 50 d50=some ⟨bodyOf Tryz.f50,[.tmp 4],[22]⟩:=finfo_at Tryz.func50 rfl (by kernel_rfl) (by kernel_rfl)
def e50:(List Int)->AV:=λr=> .fresh 1 r.length (lm (ik .i64) r)
structure K41 (fu:Nat) (cp:CallP):Prop where
 ap: ∀ {a0:List Int} {r},moves_strides fu a0=some r->cp 41 [.arr a0.length (lm (ik .i64) a0)]=some (.fresh 1 r.length (lm (ik .i64) r))
noncomputable def C41(fu:Nat):Cm Tryz.prog (List Int) (List Int):=⟨41,λt=>[.arr t.length (lm (ik .i64) t)],λt=>moves_strides fu t,e41,λt b h=>ok41 fu t b h,Zi⟩
theorem u41{fu:Nat}{cp:CallP}(H:Hit cp (C41 fu).ct):K41 fu cp:=⟨λ {a0 r} h=>(C41 fu).at H a0 r h⟩
structure K61 (fu:Nat) (cp:CallP):Prop where
 ap: ∀ {a0:List Int} {a1:Int} {r},slices_Contains_int fu a0 a1=some r->cp 61 [.arr a0.length (lm (ik .i64) a0),.v (.int .i64 a1)]=some (.v (.bool r))
noncomputable def C61(fu:Nat):Cm Tryz.prog ((List Int)×Int) Bool:=⟨61,λt=>[.arr t.1.length (lm (ik .i64) t.1),.v (.int .i64 t.2)],λt=>slices_Contains_int fu t.1 t.2,e61,λt b h=>ok61 fu t.1 t.2 b h,Zi⟩
theorem u61{fu:Nat}{cp:CallP}(H:Hit cp (C61 fu).ct):K61 fu cp:=⟨λ {a0 a1 r} h=>(C61 fu).at H (a0,a1) r h⟩
structure K44 (fu:Nat) (cp:CallP):Prop where
 ap: ∀ {a0:List Int} {a1:List Int} {r},moves_dot fu a0 a1=some r->cp 44 [.arr a0.length (lm (ik .i64) a0),.arr a1.length (lm (ik .i64) a1)]=some (.v (.int .i64 r))
noncomputable def C44(fu:Nat):Cm Tryz.prog ((List Int)×(List Int)) Int:=⟨44,λt=>[.arr t.1.length (lm (ik .i64) t.1),.arr t.2.length (lm (ik .i64) t.2)],λt=>moves_dot fu t.1 t.2,e44,λt b h=>ok44 fu t.1 t.2 b h,Zi⟩
theorem u44{fu:Nat}{cp:CallP}(H:Hit cp (C44 fu).ct):K44 fu cp:=⟨λ {a0 a1 r} h=>(C44 fu).at H (a0,a1) r h⟩
def moves_move_along.m2:LJ 2 8 Unit ((List Int)×Int):=⟨λr s e=>[(0,er e 0),(1,er e 1),(4,.own (1,10,0) 0 s.1.length s.1.length),(5,.v (.int .i64 s.2))],λr s h=>[((0,2,0),hr h (0,2,0)),((0,3,0),hr h (0,3,0)),((0,5,0),hr h (0,5,0)),((0,5,78),hr h (0,5,78)),((0,12,0),hr h (0,12,0)),((0,6,0),hr h (0,6,0)),((1,10,0),.sl true true 1 s.1.length (lm (ik .i64) s.1))]⟩
def moves_move_along.m1:LJ 1 3 Unit ((List Int)×(List Int)):=⟨λr s e=>[(0,er e 0),(1,er e 1),(4,.own (1,10,0) 0 s.2.length s.2.length)],λr s h=>[((0,2,0),hr h (0,2,0)),((0,3,0),hr h (0,3,0)),((0,5,0),bs (hr h (0,5,0)) 0 (.own (0,5,78) 0 s.1.length s.1.length)),((0,5,78),.sl true true 1 s.1.length (lm (ik .i64) s.1)),((0,12,0),hr h (0,12,0)),((0,6,0),hr h (0,6,0)),((1,10,0),.sl true true 1 s.2.length (lm (ik .i64) s.2))]⟩
set_option maxHeartbeats 20000000 in
open moves_move_along in
theorem w50(cp:CallP)(fu:Nat)(x1:T_moves_move)(x2:List Int)(H1:K41 fu cp)(H2:K61 fu cp)(H3:K44 fu cp):J (go Tryz.prog (inlC [86,103]) cp (ciE Tryz.prog (inlC [86,103]) cp (ciE Tryz.prog (inlC [86,103]) cp noI fu 103 d103 ⟨b103,[],[]⟩ noI) fu 86 d86 ⟨b86,[],[]⟩ (ciE Tryz.prog (inlC [86,103]) cp noI fu 103 d103 ⟨b103,[],[]⟩ noI)) 0 [] d50 fu (fin Tryz.prog [.tmp 4] [22]) (bodyOf Tryz.f50) (initE 0 [.ref (c_T_moves_move x1) 0,.arr x2.length (lm (ik .i64) x2)]) [] []) (moves_move_along fu x1 x2) e50:=by
 unfold moves_move_along e50
 have da:=d50_at
 conv=>arg 1;simp only[bodyOf,Tryz.f50]
 have z0:=d50_at
 have z1:=d86_at
 have z2:=Tryz.f86.eq_1
 have z3:= @go_b86
 have z4:=d103_at
 have z5:=Tryz.f103.eq_1
 have z6:= @go_b103
 have z7:=RI
 have z8:=RIk
 have z9:= @bodyOf.eq_1
 exact Wk
theorem ok50(fu:Nat)(x1:T_moves_move)(x2:List Int)(r)(h:moves_move_along fu x1 x2=some r):PureOK Tryz.prog 50 [.ref (c_T_moves_move x1) 0,.arr x2.length (lm (ik .i64) x2)] (e50 r):=pureT mixed [(C41 fu).ct,(C61 fu).ct,(C44 fu).ct] (ids:=[41,61,44]) rfl (by decide) i50 (C:=(inlC [86,103])) (ci:=λcp=>(ciE Tryz.prog (inlC [86,103]) cp (ciE Tryz.prog (inlC [86,103]) cp noI fu 103 d103 ⟨b103,[],[]⟩ noI) fu 86 d86 ⟨b86,[],[]⟩ (ciE Tryz.prog (inlC [86,103]) cp noI fu 103 d103 ⟨b103,[],[]⟩ noI))) (λcp ok=>(ciE_ok mixed ok (ciE_ok mixed ok noI_ok i103 noI_ok) i86 (ciE_ok mixed ok noI_ok i103 noI_ok))) (λcp H=>w50 cp fu x1 x2 (u41 H.1) (u61 H.2.1) (u44 H.2.2.1)) h
open Aw (d98)
def d98_at:=by have h:=tabL Aw.d98.eq_1;simp only[AllAt,Nat.zero_add,Nat.reduceAdd]at h;exact h
theorem i98:finfo Tryz.prog 98 d98=some ⟨bodyOf Tryz.f98,[.cell 4 27,.tmp 5],[27,30]⟩:=finfo_at Tryz.func98 rfl (by kernel_rfl) (by kernel_rfl)
def e98:(T_Tensor×Int)->AV:=λr=> .tuple [.agg [.v (.int .i64 r.1.fType),.fresh 1 r.1.fDims.length (lm (ik .i64) r.1.fDims),.fresh 1 r.1.fF.length (lm (ik .u32) r.1.fF),.fresh 1 r.1.fI.length (lm (ik .i64) r.1.fI),.fresh 1 r.1.fB.length (lm (bk) r.1.fB)],.v (.int .i64 r.2)]
set_option maxHeartbeats 20000000 in
theorem w98(cp:CallP)(fu:Nat)(x1:Int)(x2:List Int)(H1:K31 fu cp)(H2:K32 fu cp)(H3:K39 fu cp):J (go Tryz.prog noC cp noI 0 [] d98 fu (fin Tryz.prog [.cell 4 27,.tmp 5] [27,30]) (bodyOf Tryz.f98) (initE 0 [.v (.int .i64 x1),.arr x2.length (lm (ik .i64) x2)]) [] []) (tens_New fu x1 x2) e98:=by
 unfold tens_New e98
 have da:=d98_at
 conv=>arg 1;simp only[bodyOf,Tryz.f98]
 have z0:=d98_at
 exact Wk
theorem ok98(fu:Nat)(x1:Int)(x2:List Int)(r)(h:tens_New fu x1 x2=some r):PureOK Tryz.prog 98 [.v (.int .i64 x1),.arr x2.length (lm (ik .i64) x2)] (e98 r):=pureT mixed [(C31 fu).ct,(C32 fu).ct,(C39 fu).ct] (ids:=[31,32,39]) rfl (by decide) i98 (C:=noC) (ci:=λcp=>noI) (λcp ok=>noI_ok) (λcp H=>w98 cp fu x1 x2 (u31 H.1) (u32 H.2.1) (u39 H.2.2.1)) h
open Aw (d99)
def d99_at:=by have h:=tabL Aw.d99.eq_1;simp only[AllAt,Nat.zero_add,Nat.reduceAdd]at h;exact h
theorem i99:finfo Tryz.prog 99 d99=some ⟨bodyOf Tryz.f99,[.tmp 3],[4]⟩:=finfo_at Tryz.func99 rfl (by kernel_rfl) (by kernel_rfl)
def e99:Bool->AV:=λr=> .v (.bool r)
set_option maxHeartbeats 20000000 in
theorem w99(cp:CallP)(fu:Nat)(x1:Int)(x2:Int):J (go Tryz.prog noC cp noI 0 [] d99 fu (fin Tryz.prog [.tmp 3] [4]) (bodyOf Tryz.f99) (initE 0 [.v (.int .i64 x1),.ref [.v (.int .i64 x2)] 0]) [] []) (tens_Pick_1 fu x1 x2) e99:=by
 unfold tens_Pick_1 e99
 have da:=d99_at
 conv=>arg 1;simp only[bodyOf,Tryz.f99]
 have z0:=d99_at
 exact Wk
theorem ok99(fu:Nat)(x1:Int)(x2:Int)(r)(h:tens_Pick_1 fu x1 x2=some r):PureOK Tryz.prog 99 [.v (.int .i64 x1),.ref [.v (.int .i64 x2)] 0] (e99 r):=pureT mixed [] (ids:=[]) rfl (by decide) i99 (C:=noC) (ci:=λcp=>noI) (λcp ok=>noI_ok) (λcp H=>w99 cp fu x1 x2) h
open Aw (d100)
def d100_at:=by have h:=tabL Aw.d100.eq_1;simp only[AllAt,Nat.zero_add,Nat.reduceAdd]at h;exact h
noncomputable def b100:Code:=bodyOf Tryz.f100
theorem go_b100{C:Cfg}{cp:CallP}{ci:CallI}{lvl:Nat}{prot:List Id}{D:List (Nat×List Nat)}{n:Nat}{K:KK}{e:Env}{h:Heap}{fs:List Fr}:go Tryz.prog C cp ci lvl prot D n K b100 e h fs=go Tryz.prog C cp ci lvl prot D n K (bodyOf Tryz.f100) e h fs:=rfl
theorem i100:finfo Tryz.prog 100 d100=some ⟨b100,[],[]⟩:=finfo_at Tryz.func100 rfl (by kernel_rfl) (by kernel_rfl)
open Aw (d101)
def d101_at:=by have h:=tabL Aw.d101.eq_1;simp only[AllAt,Nat.zero_add,Nat.reduceAdd]at h;exact h
noncomputable def b101:Code:=bodyOf Tryz.f101
theorem go_b101{C:Cfg}{cp:CallP}{ci:CallI}{lvl:Nat}{prot:List Id}{D:List (Nat×List Nat)}{n:Nat}{K:KK}{e:Env}{h:Heap}{fs:List Fr}:go Tryz.prog C cp ci lvl prot D n K b101 e h fs=go Tryz.prog C cp ci lvl prot D n K (bodyOf Tryz.f101) e h fs:=rfl
theorem i101:finfo Tryz.prog 101 d101=some ⟨b101,[],[]⟩:=finfo_at Tryz.func101 rfl (by kernel_rfl) (by kernel_rfl)
open Aw (d102)
def d102_at:=by have h:=tabL Aw.d102.eq_1;simp only[AllAt,Nat.zero_add,Nat.reduceAdd]at h;exact h
noncomputable def b102:Code:=bodyOf Tryz.f102
theorem go_b102{C:Cfg}{cp:CallP}{ci:CallI}{lvl:Nat}{prot:List Id}{D:List (Nat×List Nat)}{n:Nat}{K:KK}{e:Env}{h:Heap}{fs:List Fr}:go Tryz.prog C cp ci lvl prot D n K b102 e h fs=go Tryz.prog C cp ci lvl prot D n K (bodyOf Tryz.f102) e h fs:=rfl
theorem i102:finfo Tryz.prog 102 d102=some ⟨b102,[],[]⟩:=finfo_at Tryz.func102 rfl (by kernel_rfl) (by kernel_rfl)
open Aw (d49)
def d49_at:=by have h:=tabL Aw.d49.eq_1;simp only[AllAt,Nat.zero_add,Nat.reduceAdd]at h;exact h
theorem i49:finfo Tryz.prog 49 d49=some ⟨bodyOf Tryz.f49,[.cell 6 27,.tmp 7],[27,30]⟩:=finfo_at Tryz.func49 rfl (by kernel_rfl) (by kernel_rfl)
def e49:(T_Tensor×Int)->AV:=λr=> .tuple [.agg [.v (.int .i64 r.1.fType),.fresh 1 r.1.fDims.length (lm (ik .i64) r.1.fDims),.fresh 1 r.1.fF.length (lm (ik .u32) r.1.fF),.fresh 1 r.1.fI.length (lm (ik .i64) r.1.fI),.fresh 1 r.1.fB.length (lm (bk) r.1.fB)],.v (.int .i64 r.2)]
set_option maxHeartbeats 20000000 in
theorem w49(cp:CallP)(fu:Nat)(x1:T_Tensor)(x2:List Int)(x3:List Int)(H18_0: ∀ (a0:T_Tensor) r,tens_Check fu a0=some r→cp 18 [.agg (c_T_Tensor a0)]=some (.v (.int .i64 r)))(H98_0: ∀ (a0:Int) (a1:List Int) r,tens_New fu a0 a1=some r→cp 98 [.v (.int .i64 a0),.arr a1.length (lm (ik .i64) a1)]=some (.tuple [.agg [.v (.int .i64 r.1.fType),.fresh 1 r.1.fDims.length (lm (ik .i64) r.1.fDims),.fresh 1 r.1.fF.length (lm (ik .u32) r.1.fF),.fresh 1 r.1.fI.length (lm (ik .i64) r.1.fI),.fresh 1 r.1.fB.length (lm (bk) r.1.fB)],.v (.int .i64 r.2)]))(H58_0: ∀ (a0:List Int) (c1:Int) r,slices_ContainsFunc_int fu a0 (fun y0=>tens_Pick_1 fu y0 c1)=some r→cp 58 [.arr a0.length (lm (ik .i64) a0),.fn 99 [] [.ref [.v (.int .i64 c1)] 0]]=some (.v (.bool r))):J (go Tryz.prog (inlC [100,101,102]) cp (ciE Tryz.prog (inlC [100,101,102]) cp (ciE Tryz.prog (inlC [100,101,102]) cp (ciE Tryz.prog (inlC [100,101,102]) cp noI fu 102 d102 ⟨b102,[],[]⟩ noI) fu 101 d101 ⟨b101,[],[]⟩ (ciE Tryz.prog (inlC [100,101,102]) cp noI fu 102 d102 ⟨b102,[],[]⟩ noI)) fu 100 d100 ⟨b100,[],[]⟩ (ciE Tryz.prog (inlC [100,101,102]) cp (ciE Tryz.prog (inlC [100,101,102]) cp noI fu 102 d102 ⟨b102,[],[]⟩ noI) fu 101 d101 ⟨b101,[],[]⟩ (ciE Tryz.prog (inlC [100,101,102]) cp noI fu 102 d102 ⟨b102,[],[]⟩ noI))) 0 [] d49 fu (fin Tryz.prog [.cell 6 27,.tmp 7] [27,30]) (bodyOf Tryz.f49) (initE 0 [.agg (c_T_Tensor x1),.arr x2.length (lm (ik .i64) x2),.arr x3.length (lm (ik .i64) x3)]) [] []) (tens_Pick fu x1 x2 x3) e49:=by
 unfold tens_Pick e49
 have da:=d49_at
 conv=>arg 1;simp (disch:=first|exact Zd|fail) only[bodyOf,Tryz.f49,ZZ,d49_at,simprocAttr,RI,RIk,initE]
 refine J.eq go_seq ?_
 refine J.bind λx4 h1=> ?_
 have e_h1:=H18_0 _ _ h1
 try simp only[NN,NT,LN,simprocAttr,DT]at e_h1
 conv=>arg 1;simp (disch:=first|exact Zd|fail) only[ZZ,d49_at,simprocAttr,RI,RIk,initE,e_h1]
 refine J.ite (λh2=> ?_) (λh2=> ?_)
 ·have h2' :=decide_eq_true h2
  conv=>arg 1;simp (disch:=first|exact Zd|fail) only[ZZ,d49_at,simprocAttr,RI,RIk,initE,e_h1,h2']
  refine J.eq ret_seq ?_
  refine J.bind λx5 h3=> ?_
  have e_h3:=H98_0 _ _ _ h3
  try simp only[NN,NT,LN,simprocAttr,DT]at e_h3
  conv=>arg 1;simp (disch:=first|exact Zd|fail) only[ZZ,d49_at,simprocAttr,RI,RIk,initE,e_h1,h2',e_h3]
  refine J.eq go_seq ?_
  conv=>arg 1;simp (disch:=first|exact Zd|fail) only[ZZ,d49_at,simprocAttr,RI,RIk,initE,e_h1,h2',e_h3]
  refine J.ite (λh4=> ?_) (λh4=> ?_)
  ·have h4':=decide_eq_true h4
   conv=>arg 1;simp (disch:=first|exact Zd|fail) only[ZZ,d49_at,simprocAttr,RI,RIk,initE,e_h1,h2',e_h3,h4']
   refine J.eq ret_seq ?_
   conv=>arg 1;simp (disch:=first|exact Zd|fail) only[ZZ,d49_at,simprocAttr,RI,RIk,initE,e_h1,h2',e_h3,h4']
   refine J.eq go_seq ?_
   conv=>arg 1;simp (disch:=first|exact Zd|fail) only[ZZ,d49_at,simprocAttr,RI,RIk,initE,e_h1,h2',e_h3,h4']
   refine J.ite (λh5=> ?_) (λh5=> ?_)
   ·have h5':=decide_eq_true h5
    conv=>arg 1;simp (disch:=first|exact Zd|fail) only[ZZ,d49_at,simprocAttr,RI,RIk,initE,e_h1,h2',e_h3,h4',h5']
    refine J.eq ret_seq ?_
    refine J.eq go_seq ?_
    refine J.bind λx6 h6=> ?_
    have e_h6:=H58_0 _ _ _ h6
    try simp only[NN,NT,LN,simprocAttr,DT]at e_h6
    conv=>arg 1;simp (disch:=first|exact Zd|fail) only[ZZ,d49_at,simprocAttr,RI,RIk,initE,e_h1,h2',e_h3,h4',h5',e_h6]
    refine J.ite (λh7=> ?_) (λh7=> ?_)
    ·have h7':x6=true:=h7
     refine J.some ?_
     simp (maxSteps:=20000000) (disch:=first|exact Zd|fail) only[ZZ,d49_at,simprocAttr,RI,RIk,initE,e_h1,h2',e_h3,h4',h5',e_h6,h7',FN]
    ·have h7':x6=false:=Bool.eq_false_iff.2 h7
     conv=>arg 1;simp (disch:=first|exact Zd|fail) only[ZZ,d49_at,simprocAttr,RI,RIk,initE,e_h1,h2',e_h3,h4',h5',e_h6,h7']
     refine J.eq ret_seq ?_
     conv=>arg 1;simp (disch:=first|exact Zd|fail) only[ZZ,d49_at,simprocAttr,bodyOf,Tryz.f100,d100_at,RI,RIk,initE,e_h1,h2',e_h3,h4',h5',e_h6,h7']
     refine J.callK (λ(t:List Int)=>(.tuple [],[((0,3,0),.bx true ([.v (.int .i64 x1.fType),.arr x1.fDims.length (lm (ik .i64) x1.fDims),.arr x1.fF.length (lm (ik .u32) x1.fF),.arr x1.fI.length (lm (ik .i64) x1.fI),.arr x1.fB.length (lm (bk) x1.fB)])),((0,6,0),.bx true ([.v (.int .i64 0),.v (.slice none 0 0),.v (.slice none 0 0),.v (.slice none 0 0),.v (.slice none 0 0)])),((0,22,0),.sl true true 1 x5.1.fDims.length (lm (ik .i64) x5.1.fDims)),((0,22,1),.sl true true 1 x5.1.fF.length (lm (ik .u32) t)),((0,22,2),.sl true true 1 x5.1.fI.length (lm (ik .i64) x5.1.fI)),((0,22,3),.sl true true 1 x5.1.fB.length (lm (bk) x5.1.fB)),((0,9,0),.bx true ([.v (.int .i64 x5.1.fType),.own (0,22,0) 0 x5.1.fDims.length x5.1.fDims.length,.own (0,22,1) 0 x5.1.fF.length x5.1.fF.length,.own (0,22,2) 0 x5.1.fI.length x5.1.fI.length,.own (0,22,3) 0 x5.1.fB.length x5.1.fB.length]))])) (λt=>tens_Pick.c1 fu x1 x3 x5 t) ?_ (λhj1=> ?_)
     ·rintro x7
      show J _ (tens_Pick.c1 fu x1 x3 x5 x7) _
      unfold tens_Pick.c1
      refine J.chk λh8=> ?_
      conv=>arg 1;simp (disch:=first|exact Zd|fail) only[ZZ,d49_at,simprocAttr,go_b100,bodyOf,Tryz.f100,d100_at,bodyOf,Tryz.f101,d101_at,RI,RIk,initE,e_h1,h2',e_h3,h4',h5',e_h6,h7',h8]
      refine J.callK (λ(t:List Int)=>(.tuple [],[((0,3,0),.bx true ([.v (.int .i64 x1.fType),.arr x1.fDims.length (lm (ik .i64) x1.fDims),.arr x1.fF.length (lm (ik .u32) x1.fF),.arr x1.fI.length (lm (ik .i64) x1.fI),.arr x1.fB.length (lm (bk) x1.fB)])),((0,6,0),.bx true ([.v (.int .i64 0),.v (.slice none 0 0),.v (.slice none 0 0),.v (.slice none 0 0),.v (.slice none 0 0)])),((0,22,0),.sl true true 1 x5.1.fDims.length (lm (ik .i64) x5.1.fDims)),((0,22,1),.sl true true 1 x7.length (lm (ik .u32) x7)),((0,22,2),.sl true true 1 x5.1.fI.length (lm (ik .i64) t)),((0,22,3),.sl true true 1 x5.1.fB.length (lm (bk) x5.1.fB)),((0,9,0),.bx true ([.v (.int .i64 x5.1.fType),.own (0,22,0) 0 x5.1.fDims.length x5.1.fDims.length,.own (0,22,1) 0 x7.length x7.length,.own (0,22,2) 0 x5.1.fI.length x5.1.fI.length,.own (0,22,3) 0 x5.1.fB.length x5.1.fB.length]))])) (λt=>tens_Pick.c2 fu x1 x3 x5 x7 t) ?_ (λhj2=> ?_)
      ·rintro x8
       show J _ (tens_Pick.c2 fu x1 x3 x5 x7 x8) _
       unfold tens_Pick.c2
       refine J.chk λh9=> ?_
       conv=>arg 1;simp (disch:=first|exact Zd|fail) only[ZZ,d49_at,simprocAttr,go_b100,bodyOf,Tryz.f100,d100_at,go_b101,bodyOf,Tryz.f101,d101_at,bodyOf,Tryz.f102,d102_at,RI,RIk,initE,e_h1,h2',e_h3,h4',h5',e_h6,h7',h8,h9]
       refine J.callK (λ(t:List Bool)=>(.tuple [],[((0,3,0),.bx true ([.v (.int .i64 x1.fType),.arr x1.fDims.length (lm (ik .i64) x1.fDims),.arr x1.fF.length (lm (ik .u32) x1.fF),.arr x1.fI.length (lm (ik .i64) x1.fI),.arr x1.fB.length (lm (bk) x1.fB)])),((0,6,0),.bx true ([.v (.int .i64 0),.v (.slice none 0 0),.v (.slice none 0 0),.v (.slice none 0 0),.v (.slice none 0 0)])),((0,22,0),.sl true true 1 x5.1.fDims.length (lm (ik .i64) x5.1.fDims)),((0,22,1),.sl true true 1 x7.length (lm (ik .u32) x7)),((0,22,2),.sl true true 1 x8.length (lm (ik .i64) x8)),((0,22,3),.sl true true 1 x5.1.fB.length (lm (bk) t)),((0,9,0),.bx true ([.v (.int .i64 x5.1.fType),.own (0,22,0) 0 x5.1.fDims.length x5.1.fDims.length,.own (0,22,1) 0 x7.length x7.length,.own (0,22,2) 0 x8.length x8.length,.own (0,22,3) 0 x5.1.fB.length x5.1.fB.length]))])) (λt=>tens_Pick.c3 fu x5 x7 x8 t) ?_ (λhj3=> ?_)
       ·rintro x9
        show J _ (tens_Pick.c3 fu x5 x7 x8 x9) _
        unfold tens_Pick.c3
        refine J.chk λh10=> ?_
        refine J.some ?_
        simp (maxSteps:=20000000) (disch:=first|exact Zd|fail) only[ZZ,d49_at,simprocAttr,go_b100,bodyOf,Tryz.f100,d100_at,go_b101,bodyOf,Tryz.f101,d101_at,go_b102,bodyOf,Tryz.f102,d102_at,RI,RIk,initE,e_h1,h2',e_h3,h4',h5',e_h6,h7',h8,h9,h10,FN]
       ·refine J.hd jc_at ?_
        refine J.eq go_b102 ?_
        conv=>arg 1;simp (disch:=first|exact Zd|fail) only[ZZ,d49_at,simprocAttr,go_b100,bodyOf,Tryz.f100,d100_at,go_b101,bodyOf,Tryz.f101,d101_at,go_b102,bodyOf,Tryz.f102,d102_at,RI,initE,e_h1,h2',e_h3,h4',h5',e_h6,h7',h8,h9]
        refine J.eq go_seq ?_
        conv=>arg 1;simp (disch:=first|exact Zd|fail) only[ZZ,d49_at,simprocAttr,go_b100,bodyOf,Tryz.f100,d100_at,go_b101,bodyOf,Tryz.f101,d101_at,go_b102,bodyOf,Tryz.f102,d102_at,RI,initE,e_h1,h2',e_h3,h4',h5',e_h6,h7',h8,h9]
        refine J.ite (λh11=> ?_) (λh11=> ?_)
        ·have h11':=decide_eq_true h11
         conv=>arg 1;simp (disch:=first|exact Zd|fail) only[ZZ,d49_at,simprocAttr,go_b100,bodyOf,Tryz.f100,d100_at,go_b101,bodyOf,Tryz.f101,d101_at,go_b102,bodyOf,Tryz.f102,d102_at,RI,initE,e_h1,h2',e_h3,h4',h5',e_h6,h7',h8,h9,h11']
         refine J.kret (t:=x5.1.fB) hj3 ?_
         simp (disch:=first|exact Zd|fail) only[ZZ,d49_at,simprocAttr,go_b100,bodyOf,Tryz.f100,d100_at,go_b101,bodyOf,Tryz.f101,d101_at,go_b102,bodyOf,Tryz.f102,d102_at,RI,initE,e_h1,h2',e_h3,h4',h5',e_h6,h7',h8,h9,h11',kinV_at,kinVB_at,LN,NN,NT]
        ·have h11':=decide_eq_false h11
         conv=>arg 1;simp (disch:=first|exact Zd|fail) only[ZZ,d49_at,simprocAttr,go_b100,bodyOf,Tryz.f100,d100_at,go_b101,bodyOf,Tryz.f101,d101_at,go_b102,bodyOf,Tryz.f102,d102_at,RI,initE,e_h1,h2',e_h3,h4',h5',e_h6,h7',h8,h9,h11']
         refine J.eq ret_seq ?_
         conv=>arg 1;simp (disch:=first|exact Zd|fail) only[ZZ,d49_at,simprocAttr,go_b100,bodyOf,Tryz.f100,d100_at,go_b101,bodyOf,Tryz.f101,d101_at,go_b102,bodyOf,Tryz.f102,d102_at,RI,initE,e_h1,h2',e_h3,h4',h5',e_h6,h7',h8,h9,h11']
         unfold tens_Pick.W1
         refine J.loop (λ(s:(List Bool)×Int)=>([(0,.own (0,22,3) 0 x5.1.fB.length x5.1.fB.length),(1,.arr x1.fB.length (lm (bk) x1.fB)),(11,.arr x3.length (lm (ik .i64) x3)),(12,.v (.int .i64 (x3.length:Int))),(13,.v (.int .i64 s.2))],[((0,3,0),.bx true ([.v (.int .i64 x1.fType),.arr x1.fDims.length (lm (ik .i64) x1.fDims),.arr x1.fF.length (lm (ik .u32) x1.fF),.arr x1.fI.length (lm (ik .i64) x1.fI),.arr x1.fB.length (lm (bk) x1.fB)])),((0,6,0),.bx true ([.v (.int .i64 0),.v (.slice none 0 0),.v (.slice none 0 0),.v (.slice none 0 0),.v (.slice none 0 0)])),((0,22,0),.sl true true 1 x5.1.fDims.length (lm (ik .i64) x5.1.fDims)),((0,22,1),.sl true true 1 x7.length (lm (ik .u32) x7)),((0,22,2),.sl true true 1 x8.length (lm (ik .i64) x8)),((0,22,3),.sl true true 1 x5.1.fB.length (lm (bk) s.1)),((0,9,0),.bx true ([.v (.int .i64 x5.1.fType),.own (0,22,0) 0 x5.1.fDims.length x5.1.fDims.length,.own (0,22,1) 0 x7.length x7.length,.own (0,22,2) 0 x8.length x8.length,.own (0,22,3) 0 x5.1.fB.length x5.1.fB.length]))])) (λnext s=>tens_Pick.L1 fu x1 x3 x5 x7 x8 (λx12 x13=>next (x12,x13)) s.1 s.2) (s0:=(x5.1.fB,0)) ?_ ?_ ?_
         ·exact Ze
         ·exact Zh
         rintro next k1 hn1 ⟨x12,x13⟩
         let nx1:(List Bool)->Int->Option (T_Tensor×Int):=(λx12 x13=>next (x12,x13))
         show J _ (tens_Pick.L1 fu x1 x3 x5 x7 x8 nx1 x12 x13) _
         unfold tens_Pick.L1
         conv=>arg 1;simp (disch:=first|exact Zd|fail) only[ZZ,d49_at,simprocAttr,go_b100,bodyOf,Tryz.f100,d100_at,go_b101,bodyOf,Tryz.f101,d101_at,go_b102,bodyOf,Tryz.f102,d102_at,RI,initE,e_h1,h2',e_h3,h4',h5',e_h6,h7',h8,h9,h11']
         refine J.eq go_seq ?_
         conv=>arg 1;simp (disch:=first|exact Zd|fail) only[ZZ,d49_at,simprocAttr,go_b100,bodyOf,Tryz.f100,d100_at,go_b101,bodyOf,Tryz.f101,d101_at,go_b102,bodyOf,Tryz.f102,d102_at,RI,initE,e_h1,h2',e_h3,h4',h5',e_h6,h7',h8,h9,h11']
         refine J.ite (λh12=> ?_) (λh12=> ?_)
         ·have h12':=decide_eq_true h12
          have h12'':decide ((x3.length:Int)<=x13)=false:=decide_eq_false (by omega)
          conv=>arg 1;simp (disch:=first|exact Zd|fail) only[ZZ,d49_at,simprocAttr,go_b100,bodyOf,Tryz.f100,d100_at,go_b101,bodyOf,Tryz.f101,d101_at,go_b102,bodyOf,Tryz.f102,d102_at,RI,initE,e_h1,h2',e_h3,h4',h5',e_h6,h7',h8,h9,h11',h12'',h12']
          refine J.eq ret_seq ?_
          refine J.eq go_seq ?_
          refine J.at λx16 h13 h14 h15=> ?_
          conv=>arg 1;simp (disch:=first|exact Zd|fail) only[ZZ,d49_at,simprocAttr,go_b100,bodyOf,Tryz.f100,d100_at,go_b101,bodyOf,Tryz.f101,d101_at,go_b102,bodyOf,Tryz.f102,d102_at,RI,initE,e_h1,h2',e_h3,h4',h5',e_h6,h7',h8,h9,h11',h12'',h12',lm_ik h15]
          refine J.ite (λh16=> ?_) (λh16=> ?_)
          ·have h16':=decide_eq_true h16
           have h16'':decide (x16<0)=false:=decide_eq_false (by omega)
           refine J.at λx17 h17 h18 h19=> ?_
           refine J.chk λh20=> ?_
           refine J.chk λh21=> ?_
           conv=>arg 1;simp (disch:=first|exact Zd|fail) only[ZZ,d49_at,simprocAttr,go_b100,bodyOf,Tryz.f100,d100_at,go_b101,bodyOf,Tryz.f101,d101_at,go_b102,bodyOf,Tryz.f102,d102_at,RI,initE,e_h1,h2',e_h3,h4',h5',e_h6,h7',h8,h9,h11',h12'',h12',lm_ik h15,h16'',h16',lm_bk h19]
           refine J.eq ret_seq ?_
           conv=>arg 1;simp (disch:=first|exact Zd|fail) only[ZZ,d49_at,simprocAttr,go_b100,bodyOf,Tryz.f100,d100_at,go_b101,bodyOf,Tryz.f101,d101_at,go_b102,bodyOf,Tryz.f102,d102_at,RI,initE,e_h1,h2',e_h3,h4',h5',e_h6,h7',h8,h9,h11',h12'',h12',lm_ik h15,h16'',h16',lm_bk h19]
           refine J.next (s:=(x12.set x13.toNat x17,wk .i64 (x13+1))) hn1 ?_ ?_
           ·exact Ze
           ·exact Zh
          ·have h16':=decide_eq_false h16
           have h16'':decide (x16<0)=true:=decide_eq_true (by omega)
           conv=>arg 1;simp (disch:=first|exact Zd|fail) only[ZZ,d49_at,simprocAttr,go_b100,bodyOf,Tryz.f100,d100_at,go_b101,bodyOf,Tryz.f101,d101_at,go_b102,bodyOf,Tryz.f102,d102_at,RI,initE,e_h1,h2',e_h3,h4',h5',e_h6,h7',h8,h9,h11',h12'',h12',lm_ik h15,h16'',h16']
           refine J.eq ret_seq ?_
           conv=>arg 1;simp (disch:=first|exact Zd|fail) only[ZZ,d49_at,simprocAttr,go_b100,bodyOf,Tryz.f100,d100_at,go_b101,bodyOf,Tryz.f101,d101_at,go_b102,bodyOf,Tryz.f102,d102_at,RI,initE,e_h1,h2',e_h3,h4',h5',e_h6,h7',h8,h9,h11',h12'',h12',lm_ik h15,h16'',h16']
           refine J.next (s:=(x12,wk .i64 (x13+1))) hn1 ?_ ?_
           ·exact Ze
           ·exact Zh
         ·have h12':=decide_eq_false h12
          have h12'':decide ((x3.length:Int)<=x13)=true:=decide_eq_true (by omega)
          conv=>arg 1;simp (disch:=first|exact Zd|fail) only[ZZ,d49_at,simprocAttr,go_b100,bodyOf,Tryz.f100,d100_at,go_b101,bodyOf,Tryz.f101,d101_at,go_b102,bodyOf,Tryz.f102,d102_at,RI,initE,e_h1,h2',e_h3,h4',h5',e_h6,h7',h8,h9,h11',h12'',h12']
          refine J.knormal (t:=x12) hj3 ?_
          simp (disch:=first|exact Zd|fail) only[ZZ,d49_at,simprocAttr,go_b100,bodyOf,Tryz.f100,d100_at,go_b101,bodyOf,Tryz.f101,d101_at,go_b102,bodyOf,Tryz.f102,d102_at,RI,initE,e_h1,h2',e_h3,h4',h5',e_h6,h7',h8,h9,h11',h12'',h12',kinV_at,kinVB_at,LN,NN,NT]
      ·refine J.hd jc_at ?_
       refine J.eq go_b101 ?_
       conv=>arg 1;simp (disch:=first|exact Zd|fail) only[ZZ,d49_at,simprocAttr,go_b100,bodyOf,Tryz.f100,d100_at,go_b101,bodyOf,Tryz.f101,d101_at,go_b102,bodyOf,Tryz.f102,d102_at,RI,initE,e_h1,h2',e_h3,h4',h5',e_h6,h7',h8]
       refine J.eq go_seq ?_
       conv=>arg 1;simp (disch:=first|exact Zd|fail) only[ZZ,d49_at,simprocAttr,go_b100,bodyOf,Tryz.f100,d100_at,go_b101,bodyOf,Tryz.f101,d101_at,go_b102,bodyOf,Tryz.f102,d102_at,RI,initE,e_h1,h2',e_h3,h4',h5',e_h6,h7',h8]
       refine J.ite (λh22=> ?_) (λh22=> ?_)
       ·have h22':=decide_eq_true h22
        conv=>arg 1;simp (disch:=first|exact Zd|fail) only[ZZ,d49_at,simprocAttr,go_b100,bodyOf,Tryz.f100,d100_at,go_b101,bodyOf,Tryz.f101,d101_at,go_b102,bodyOf,Tryz.f102,d102_at,RI,initE,e_h1,h2',e_h3,h4',h5',e_h6,h7',h8,h22']
        refine J.kret (t:=x5.1.fI) hj2 ?_
        simp (disch:=first|exact Zd|fail) only[ZZ,d49_at,simprocAttr,go_b100,bodyOf,Tryz.f100,d100_at,go_b101,bodyOf,Tryz.f101,d101_at,go_b102,bodyOf,Tryz.f102,d102_at,RI,initE,e_h1,h2',e_h3,h4',h5',e_h6,h7',h8,h22',kinV_at,kinVB_at,LN,NN,NT]
       ·have h22':=decide_eq_false h22
        conv=>arg 1;simp (disch:=first|exact Zd|fail) only[ZZ,d49_at,simprocAttr,go_b100,bodyOf,Tryz.f100,d100_at,go_b101,bodyOf,Tryz.f101,d101_at,go_b102,bodyOf,Tryz.f102,d102_at,RI,initE,e_h1,h2',e_h3,h4',h5',e_h6,h7',h8,h22']
        refine J.eq ret_seq ?_
        conv=>arg 1;simp (disch:=first|exact Zd|fail) only[ZZ,d49_at,simprocAttr,go_b100,bodyOf,Tryz.f100,d100_at,go_b101,bodyOf,Tryz.f101,d101_at,go_b102,bodyOf,Tryz.f102,d102_at,RI,initE,e_h1,h2',e_h3,h4',h5',e_h6,h7',h8,h22']
        unfold tens_Pick.W2
        refine J.loop (λ(s:(List Int)×Int)=>([(0,.own (0,22,2) 0 x5.1.fI.length x5.1.fI.length),(1,.arr x1.fI.length (lm (ik .i64) x1.fI)),(11,.arr x3.length (lm (ik .i64) x3)),(12,.v (.int .i64 (x3.length:Int))),(13,.v (.int .i64 s.2))],[((0,3,0),.bx true ([.v (.int .i64 x1.fType),.arr x1.fDims.length (lm (ik .i64) x1.fDims),.arr x1.fF.length (lm (ik .u32) x1.fF),.arr x1.fI.length (lm (ik .i64) x1.fI),.arr x1.fB.length (lm (bk) x1.fB)])),((0,6,0),.bx true ([.v (.int .i64 0),.v (.slice none 0 0),.v (.slice none 0 0),.v (.slice none 0 0),.v (.slice none 0 0)])),((0,22,0),.sl true true 1 x5.1.fDims.length (lm (ik .i64) x5.1.fDims)),((0,22,1),.sl true true 1 x7.length (lm (ik .u32) x7)),((0,22,2),.sl true true 1 x5.1.fI.length (lm (ik .i64) s.1)),((0,22,3),.sl true true 1 x5.1.fB.length (lm (bk) x5.1.fB)),((0,9,0),.bx true ([.v (.int .i64 x5.1.fType),.own (0,22,0) 0 x5.1.fDims.length x5.1.fDims.length,.own (0,22,1) 0 x7.length x7.length,.own (0,22,2) 0 x5.1.fI.length x5.1.fI.length,.own (0,22,3) 0 x5.1.fB.length x5.1.fB.length]))])) (λnext s=>tens_Pick.L2 fu x1 x3 x5 x7 (λx20 x21=>next (x20,x21)) s.1 s.2) (s0:=(x5.1.fI,0)) ?_ ?_ ?_
        ·exact Ze
        ·exact Zh
        rintro next k2 hn2 ⟨x20,x21⟩
        let nx2:(List Int)->Int->Option (T_Tensor×Int):=(λx20 x21=>next (x20,x21))
        show J _ (tens_Pick.L2 fu x1 x3 x5 x7 nx2 x20 x21) _
        unfold tens_Pick.L2
        conv=>arg 1;simp (disch:=first|exact Zd|fail) only[ZZ,d49_at,simprocAttr,go_b100,bodyOf,Tryz.f100,d100_at,go_b101,bodyOf,Tryz.f101,d101_at,go_b102,bodyOf,Tryz.f102,d102_at,RI,initE,e_h1,h2',e_h3,h4',h5',e_h6,h7',h8,h22']
        refine J.eq go_seq ?_
        conv=>arg 1;simp (disch:=first|exact Zd|fail) only[ZZ,d49_at,simprocAttr,go_b100,bodyOf,Tryz.f100,d100_at,go_b101,bodyOf,Tryz.f101,d101_at,go_b102,bodyOf,Tryz.f102,d102_at,RI,initE,e_h1,h2',e_h3,h4',h5',e_h6,h7',h8,h22']
        refine J.ite (λh23=> ?_) (λh23=> ?_)
        ·have h23':=decide_eq_true h23
         have h23'':decide ((x3.length:Int)<=x21)=false:=decide_eq_false (by omega)
         conv=>arg 1;simp (disch:=first|exact Zd|fail) only[ZZ,d49_at,simprocAttr,go_b100,bodyOf,Tryz.f100,d100_at,go_b101,bodyOf,Tryz.f101,d101_at,go_b102,bodyOf,Tryz.f102,d102_at,RI,initE,e_h1,h2',e_h3,h4',h5',e_h6,h7',h8,h22',h23'',h23']
         refine J.eq ret_seq ?_
         refine J.eq go_seq ?_
         refine J.at λx24 h24 h25 h26=> ?_
         conv=>arg 1;simp (disch:=first|exact Zd|fail) only[ZZ,d49_at,simprocAttr,go_b100,bodyOf,Tryz.f100,d100_at,go_b101,bodyOf,Tryz.f101,d101_at,go_b102,bodyOf,Tryz.f102,d102_at,RI,initE,e_h1,h2',e_h3,h4',h5',e_h6,h7',h8,h22',h23'',h23',lm_ik h26]
         refine J.ite (λh27=> ?_) (λh27=> ?_)
         ·have h27':=decide_eq_true h27
          have h27'':decide (x24<0)=false:=decide_eq_false (by omega)
          refine J.at λx25 h28 h29 h30=> ?_
          refine J.chk λh31=> ?_
          refine J.chk λh32=> ?_
          conv=>arg 1;simp (disch:=first|exact Zd|fail) only[ZZ,d49_at,simprocAttr,go_b100,bodyOf,Tryz.f100,d100_at,go_b101,bodyOf,Tryz.f101,d101_at,go_b102,bodyOf,Tryz.f102,d102_at,RI,initE,e_h1,h2',e_h3,h4',h5',e_h6,h7',h8,h22',h23'',h23',lm_ik h26,h27'',h27',lm_ik h30]
          refine J.eq ret_seq ?_
          conv=>arg 1;simp (disch:=first|exact Zd|fail) only[ZZ,d49_at,simprocAttr,go_b100,bodyOf,Tryz.f100,d100_at,go_b101,bodyOf,Tryz.f101,d101_at,go_b102,bodyOf,Tryz.f102,d102_at,RI,initE,e_h1,h2',e_h3,h4',h5',e_h6,h7',h8,h22',h23'',h23',lm_ik h26,h27'',h27',lm_ik h30]
          refine J.next (s:=(x20.set x21.toNat x25,wk .i64 (x21+1))) hn2 ?_ ?_
          ·exact Ze
          ·exact Zh
         ·have h27':=decide_eq_false h27
          have h27'':decide (x24<0)=true:=decide_eq_true (by omega)
          conv=>arg 1;simp (disch:=first|exact Zd|fail) only[ZZ,d49_at,simprocAttr,go_b100,bodyOf,Tryz.f100,d100_at,go_b101,bodyOf,Tryz.f101,d101_at,go_b102,bodyOf,Tryz.f102,d102_at,RI,initE,e_h1,h2',e_h3,h4',h5',e_h6,h7',h8,h22',h23'',h23',lm_ik h26,h27'',h27']
          refine J.eq ret_seq ?_
          conv=>arg 1;simp (disch:=first|exact Zd|fail) only[ZZ,d49_at,simprocAttr,go_b100,bodyOf,Tryz.f100,d100_at,go_b101,bodyOf,Tryz.f101,d101_at,go_b102,bodyOf,Tryz.f102,d102_at,RI,initE,e_h1,h2',e_h3,h4',h5',e_h6,h7',h8,h22',h23'',h23',lm_ik h26,h27'',h27']
          refine J.next (s:=(x20,wk .i64 (x21+1))) hn2 ?_ ?_
          ·exact Ze
          ·exact Zh
        ·have h23':=decide_eq_false h23
         have h23'':decide ((x3.length:Int)<=x21)=true:=decide_eq_true (by omega)
         conv=>arg 1;simp (disch:=first|exact Zd|fail) only[ZZ,d49_at,simprocAttr,go_b100,bodyOf,Tryz.f100,d100_at,go_b101,bodyOf,Tryz.f101,d101_at,go_b102,bodyOf,Tryz.f102,d102_at,RI,initE,e_h1,h2',e_h3,h4',h5',e_h6,h7',h8,h22',h23'',h23']
         refine J.knormal (t:=x20) hj2 ?_
         simp (disch:=first|exact Zd|fail) only[ZZ,d49_at,simprocAttr,go_b100,bodyOf,Tryz.f100,d100_at,go_b101,bodyOf,Tryz.f101,d101_at,go_b102,bodyOf,Tryz.f102,d102_at,RI,initE,e_h1,h2',e_h3,h4',h5',e_h6,h7',h8,h22',h23'',h23',kinV_at,kinVB_at,LN,NN,NT]
     ·refine J.hd jc_at ?_
      refine J.eq go_b100 ?_
      conv=>arg 1;simp (disch:=first|exact Zd|fail) only[ZZ,d49_at,simprocAttr,go_b100,bodyOf,Tryz.f100,d100_at,go_b101,bodyOf,Tryz.f101,d101_at,go_b102,bodyOf,Tryz.f102,d102_at,RI,initE,e_h1,h2',e_h3,h4',h5',e_h6,h7']
      refine J.eq go_seq ?_
      conv=>arg 1;simp (disch:=first|exact Zd|fail) only[ZZ,d49_at,simprocAttr,go_b100,bodyOf,Tryz.f100,d100_at,go_b101,bodyOf,Tryz.f101,d101_at,go_b102,bodyOf,Tryz.f102,d102_at,RI,initE,e_h1,h2',e_h3,h4',h5',e_h6,h7']
      refine J.ite (λh33=> ?_) (λh33=> ?_)
      ·have h33':=decide_eq_true h33
       conv=>arg 1;simp (disch:=first|exact Zd|fail) only[ZZ,d49_at,simprocAttr,go_b100,bodyOf,Tryz.f100,d100_at,go_b101,bodyOf,Tryz.f101,d101_at,go_b102,bodyOf,Tryz.f102,d102_at,RI,initE,e_h1,h2',e_h3,h4',h5',e_h6,h7',h33']
       refine J.kret (t:=x5.1.fF) hj1 ?_
       simp (disch:=first|exact Zd|fail) only[ZZ,d49_at,simprocAttr,go_b100,bodyOf,Tryz.f100,d100_at,go_b101,bodyOf,Tryz.f101,d101_at,go_b102,bodyOf,Tryz.f102,d102_at,RI,initE,e_h1,h2',e_h3,h4',h5',e_h6,h7',h33',kinV_at,kinVB_at,LN,NN,NT]
      ·have h33':=decide_eq_false h33
       conv=>arg 1;simp (disch:=first|exact Zd|fail) only[ZZ,d49_at,simprocAttr,go_b100,bodyOf,Tryz.f100,d100_at,go_b101,bodyOf,Tryz.f101,d101_at,go_b102,bodyOf,Tryz.f102,d102_at,RI,initE,e_h1,h2',e_h3,h4',h5',e_h6,h7',h33']
       refine J.eq ret_seq ?_
       conv=>arg 1;simp (disch:=first|exact Zd|fail) only[ZZ,d49_at,simprocAttr,go_b100,bodyOf,Tryz.f100,d100_at,go_b101,bodyOf,Tryz.f101,d101_at,go_b102,bodyOf,Tryz.f102,d102_at,RI,initE,e_h1,h2',e_h3,h4',h5',e_h6,h7',h33']
       unfold tens_Pick.W3
       refine J.loop (λ(s:(List Int)×Int)=>([(0,.own (0,22,1) 0 x5.1.fF.length x5.1.fF.length),(1,.arr x1.fF.length (lm (ik .u32) x1.fF)),(11,.arr x3.length (lm (ik .i64) x3)),(12,.v (.int .i64 (x3.length:Int))),(13,.v (.int .i64 s.2))],[((0,3,0),.bx true ([.v (.int .i64 x1.fType),.arr x1.fDims.length (lm (ik .i64) x1.fDims),.arr x1.fF.length (lm (ik .u32) x1.fF),.arr x1.fI.length (lm (ik .i64) x1.fI),.arr x1.fB.length (lm (bk) x1.fB)])),((0,6,0),.bx true ([.v (.int .i64 0),.v (.slice none 0 0),.v (.slice none 0 0),.v (.slice none 0 0),.v (.slice none 0 0)])),((0,22,0),.sl true true 1 x5.1.fDims.length (lm (ik .i64) x5.1.fDims)),((0,22,1),.sl true true 1 x5.1.fF.length (lm (ik .u32) s.1)),((0,22,2),.sl true true 1 x5.1.fI.length (lm (ik .i64) x5.1.fI)),((0,22,3),.sl true true 1 x5.1.fB.length (lm (bk) x5.1.fB)),((0,9,0),.bx true ([.v (.int .i64 x5.1.fType),.own (0,22,0) 0 x5.1.fDims.length x5.1.fDims.length,.own (0,22,1) 0 x5.1.fF.length x5.1.fF.length,.own (0,22,2) 0 x5.1.fI.length x5.1.fI.length,.own (0,22,3) 0 x5.1.fB.length x5.1.fB.length]))])) (λnext s=>tens_Pick.L3 fu x1 x3 x5 (λx28 x29=>next (x28,x29)) s.1 s.2) (s0:=(x5.1.fF,0)) ?_ ?_ ?_
       ·exact Ze
       ·exact Zh
       rintro next k3 hn3 ⟨x28,x29⟩
       let nx3:(List Int)->Int->Option (T_Tensor×Int):=(λx28 x29=>next (x28,x29))
       show J _ (tens_Pick.L3 fu x1 x3 x5 nx3 x28 x29) _
       unfold tens_Pick.L3
       conv=>arg 1;simp (disch:=first|exact Zd|fail) only[ZZ,d49_at,simprocAttr,go_b100,bodyOf,Tryz.f100,d100_at,go_b101,bodyOf,Tryz.f101,d101_at,go_b102,bodyOf,Tryz.f102,d102_at,RI,initE,e_h1,h2',e_h3,h4',h5',e_h6,h7',h33']
       refine J.eq go_seq ?_
       conv=>arg 1;simp (disch:=first|exact Zd|fail) only[ZZ,d49_at,simprocAttr,go_b100,bodyOf,Tryz.f100,d100_at,go_b101,bodyOf,Tryz.f101,d101_at,go_b102,bodyOf,Tryz.f102,d102_at,RI,initE,e_h1,h2',e_h3,h4',h5',e_h6,h7',h33']
       refine J.ite (λh34=> ?_) (λh34=> ?_)
       ·have h34':=decide_eq_true h34
        have h34'':decide ((x3.length:Int)<=x29)=false:=decide_eq_false (by omega)
        conv=>arg 1;simp (disch:=first|exact Zd|fail) only[ZZ,d49_at,simprocAttr,go_b100,bodyOf,Tryz.f100,d100_at,go_b101,bodyOf,Tryz.f101,d101_at,go_b102,bodyOf,Tryz.f102,d102_at,RI,initE,e_h1,h2',e_h3,h4',h5',e_h6,h7',h33',h34'',h34']
        refine J.eq ret_seq ?_
        refine J.eq go_seq ?_
        refine J.at λx32 h35 h36 h37=> ?_
        conv=>arg 1;simp (disch:=first|exact Zd|fail) only[ZZ,d49_at,simprocAttr,go_b100,bodyOf,Tryz.f100,d100_at,go_b101,bodyOf,Tryz.f101,d101_at,go_b102,bodyOf,Tryz.f102,d102_at,RI,initE,e_h1,h2',e_h3,h4',h5',e_h6,h7',h33',h34'',h34',lm_ik h37]
        refine J.ite (λh38=> ?_) (λh38=> ?_)
        ·have h38':=decide_eq_true h38
         have h38'':decide (x32<0)=false:=decide_eq_false (by omega)
         refine J.at λx33 h39 h40 h41=> ?_
         refine J.chk λh42=> ?_
         refine J.chk λh43=> ?_
         conv=>arg 1;simp (disch:=first|exact Zd|fail) only[ZZ,d49_at,simprocAttr,go_b100,bodyOf,Tryz.f100,d100_at,go_b101,bodyOf,Tryz.f101,d101_at,go_b102,bodyOf,Tryz.f102,d102_at,RI,initE,e_h1,h2',e_h3,h4',h5',e_h6,h7',h33',h34'',h34',lm_ik h37,h38'',h38',lm_ik h41]
         refine J.eq ret_seq ?_
         conv=>arg 1;simp (disch:=first|exact Zd|fail) only[ZZ,d49_at,simprocAttr,go_b100,bodyOf,Tryz.f100,d100_at,go_b101,bodyOf,Tryz.f101,d101_at,go_b102,bodyOf,Tryz.f102,d102_at,RI,initE,e_h1,h2',e_h3,h4',h5',e_h6,h7',h33',h34'',h34',lm_ik h37,h38'',h38',lm_ik h41]
         refine J.next (s:=(x28.set x29.toNat x33,wk .i64 (x29+1))) hn3 ?_ ?_
         ·exact Ze
         ·exact Zh
        ·have h38':=decide_eq_false h38
         have h38'':decide (x32<0)=true:=decide_eq_true (by omega)
         conv=>arg 1;simp (disch:=first|exact Zd|fail) only[ZZ,d49_at,simprocAttr,go_b100,bodyOf,Tryz.f100,d100_at,go_b101,bodyOf,Tryz.f101,d101_at,go_b102,bodyOf,Tryz.f102,d102_at,RI,initE,e_h1,h2',e_h3,h4',h5',e_h6,h7',h33',h34'',h34',lm_ik h37,h38'',h38']
         refine J.eq ret_seq ?_
         conv=>arg 1;simp (disch:=first|exact Zd|fail) only[ZZ,d49_at,simprocAttr,go_b100,bodyOf,Tryz.f100,d100_at,go_b101,bodyOf,Tryz.f101,d101_at,go_b102,bodyOf,Tryz.f102,d102_at,RI,initE,e_h1,h2',e_h3,h4',h5',e_h6,h7',h33',h34'',h34',lm_ik h37,h38'',h38']
         refine J.next (s:=(x28,wk .i64 (x29+1))) hn3 ?_ ?_
         ·exact Ze
         ·exact Zh
       ·have h34':=decide_eq_false h34
        have h34'':decide ((x3.length:Int)<=x29)=true:=decide_eq_true (by omega)
        conv=>arg 1;simp (disch:=first|exact Zd|fail) only[ZZ,d49_at,simprocAttr,go_b100,bodyOf,Tryz.f100,d100_at,go_b101,bodyOf,Tryz.f101,d101_at,go_b102,bodyOf,Tryz.f102,d102_at,RI,initE,e_h1,h2',e_h3,h4',h5',e_h6,h7',h33',h34'',h34']
        refine J.knormal (t:=x28) hj1 ?_
        simp (disch:=first|exact Zd|fail) only[ZZ,d49_at,simprocAttr,go_b100,bodyOf,Tryz.f100,d100_at,go_b101,bodyOf,Tryz.f101,d101_at,go_b102,bodyOf,Tryz.f102,d102_at,RI,initE,e_h1,h2',e_h3,h4',h5',e_h6,h7',h33',h34'',h34',kinV_at,kinVB_at,LN,NN,NT]
   ·have h5':=decide_eq_false h5
    refine J.some ?_
    simp (maxSteps:=20000000) (disch:=first|exact Zd|fail) only[ZZ,d49_at,simprocAttr,go_b100,bodyOf,Tryz.f100,d100_at,go_b101,bodyOf,Tryz.f101,d101_at,go_b102,bodyOf,Tryz.f102,d102_at,RI,RIk,initE,e_h1,h2',e_h3,h4',h5',FN]
  ·have h4':=decide_eq_false h4
   refine J.some ?_
   simp (maxSteps:=20000000) (disch:=first|exact Zd|fail) only[ZZ,d49_at,simprocAttr,go_b100,bodyOf,Tryz.f100,d100_at,go_b101,bodyOf,Tryz.f101,d101_at,go_b102,bodyOf,Tryz.f102,d102_at,RI,RIk,initE,e_h1,h2',e_h3,h4',FN]
 ·have h2':=decide_eq_false h2
  refine J.some ?_
  simp (maxSteps:=20000000) (disch:=first|exact Zd|fail) only[ZZ,d49_at,simprocAttr,go_b100,bodyOf,Tryz.f100,d100_at,go_b101,bodyOf,Tryz.f101,d101_at,go_b102,bodyOf,Tryz.f102,d102_at,RI,RIk,initE,e_h1,h2',FN]
noncomputable def t49(fu:Nat):CallP:=orE 18 (mkC (λ(t:T_Tensor)=>([.agg (c_T_Tensor t)]:List AV)) (λt=>tens_Check fu t) e18) (orE 98 (mkC (λ(t:Int×(List Int))=>([.v (.int .i64 t.1),.arr t.2.length (lm (ik .i64) t.2)]:List AV)) (λt=>tens_New fu t.1 t.2) e98) (orE 58 (mkC (λ(t:(List Int)×Int)=>([.arr t.1.length (lm (ik .i64) t.1),.fn 99 [] [.ref [.v (.int .i64 t.2)] 0]]:List AV)) (λt=>slices_ContainsFunc_int fu t.1 (λy0=>tens_Pick_1 fu y0 t.2)) e58) (noP)))
theorem t49_ok(fu:Nat):CpOK Tryz.prog (t49 fu):=orE_ok (orE_ok (orE_ok (noP_ok) (mkC_ok (λt b h=>ok58 fu t.1 (λy0=>tens_Pick_1 fu y0 t.2) 99 [.ref [.v (.int .i64 t.2)] 0] (Capt.ref Capt.nil) (λy0 r h=>ok99 fu y0 t.2 r h) b h))) (mkC_ok (λt b h=>ok98 fu t.1 t.2 b h))) (mkC_ok (λt b h=>ok18 fu t b h))
theorem ok49(fu:Nat)(x1:T_Tensor)(x2:List Int)(x3:List Int)(r)(h:tens_Pick fu x1 x2 x3=some r):PureOK Tryz.prog 49 [.agg (c_T_Tensor x1),.arr x2.length (lm (ik .i64) x2),.arr x3.length (lm (ik .i64) x3)] (e49 r):=
  pure_J mixed (cp:=t49 fu) (t49_ok fu) (ciE_ok mixed (t49_ok fu) (ciE_ok mixed (t49_ok fu) (ciE_ok mixed (t49_ok fu) noI_ok i102 noI_ok) i101 (ciE_ok mixed (t49_ok fu) noI_ok i102 noI_ok)) i100 (ciE_ok mixed (t49_ok fu) (ciE_ok mixed (t49_ok fu) noI_ok i102 noI_ok) i101 (ciE_ok mixed (t49_ok fu) noI_ok i102 noI_ok))) i49 (w49 _ fu x1 x2 x3 (λa0 r h=>orE_hit (mkC_at (a:=a0) (by intro a b h;first|(exact rfl)|(simp only[INJ,IJ]at h;first|exact h|(simp_all [Prod.ext_iff]))) h)) (λa0 a1 r h=>orE_miss (by decide) (orE_hit (mkC_at (a:=(a0,a1)) (by intro a b h;first|(exact rfl)|(simp only[INJ,IJ]at h;first|exact h|(simp_all [Prod.ext_iff]))) h))) (λa0 c1 r h=>orE_miss (by decide) (orE_miss (by decide) (orE_hit (mkC_at (a:=(a0,c1)) (by intro a b h;first|(exact rfl)|(simp only[INJ,IJ]at h;first|exact h|(simp_all [Prod.ext_iff]))) h))))) h
open Aw (d25)
def d25_at:=by have h:=tabL Aw.d25.eq_1;simp only[AllAt,Nat.zero_add,Nat.reduceAdd]at h;exact h
noncomputable def b25:Code:=bodyOf Tryz.f25
theorem go_b25{C:Cfg}{cp:CallP}{ci:CallI}{lvl:Nat}{prot:List Id}{D:List (Nat×List Nat)}{n:Nat}{K:KK}{e:Env}{h:Heap}{fs:List Fr}:go Tryz.prog C cp ci lvl prot D n K b25 e h fs=go Tryz.prog C cp ci lvl prot D n K (bodyOf Tryz.f25) e h fs:=rfl
theorem i25:finfo Tryz.prog 25 d25=some ⟨b25,[.cell 6 27],[27]⟩:=finfo_at Tryz.func25 rfl (by kernel_rfl) (by kernel_rfl)
def d51:List (Nat×List Nat):=[(0,[]),(0,[0,6,21,22,23]),(1766847064778384329583316500264203817565420549730204426942382828014176368,[9,10,11,12,13,14,15,16,17,18]),(0,[]),(0,[1,19,20]),(0,[7,8]),(0,[]),(0,[]),(0,[25,26,27]),(0,[]),(9,[28,29,30,31,32,33,34,35,36]),(0,[]),(0,[38,39,40]),(0,[]),(9,[41,42,43,44,45,46,47,48,49]),(0,[]),(0,[51,52,53,54,55,56,57,58,59,60,61]),(0,[]),(12,[62,63,64,65,66,67,68,69,70,71,72,73]),(0,[]),(0,[75,76,77,78,79,80,81,82,83,84,85]),(0,[]),(12,[86,87,88,89,90,91,92,93,94,95,96,97]),(0,[]),(0,[99,100,101]),(0,[]),(9,[102,103,104,105,106,107,108,109,110]),(0,[]),(0,[112,113,114,115,116,117]),(0,[]),(15,[118,119,120,121,122,123,124,125,126,127,128,129,130,131,132]),(0,[]),(0,[134,135,136,137,138,139]),(0,[]),(15,[140,141,142,143,144,145,146,147,148,149,150,151,152,153,154]),(0,[]),(0,[155]),(0,[]),(0,[5,156])]
def d51_at:=by have h:=tabL d51.eq_1;simp only[AllAt,Nat.zero_add,Nat.reduceAdd]at h;exact h
noncomputable def b51:Code:=bodyOf Tryz.f51
theorem go_b51{C:Cfg}{cp:CallP}{ci:CallI}{lvl:Nat}{prot:List Id}{D:List (Nat×List Nat)}{n:Nat}{K:KK}{e:Env}{h:Heap}{fs:List Fr}:go Tryz.prog C cp ci lvl prot D n K b51 e h fs=go Tryz.prog C cp ci lvl prot D n K (bodyOf Tryz.f51) e h fs:=rfl
theorem i51:finfo Tryz.prog 51 d51=some ⟨b51,[.cell 4 27],[27]⟩:=finfo_at Tryz.func51 rfl (by kernel_rfl) (by kernel_rfl)
end Go.Av
