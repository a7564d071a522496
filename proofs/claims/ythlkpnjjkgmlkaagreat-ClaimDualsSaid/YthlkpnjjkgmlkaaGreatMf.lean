/- Fixed calls, reckoned out. No condition. -/
import Derived.Test.YthlkpnjjkgmlkaaGreatMa
namespace Go.Proofs.YthlkpnjjkgmlkaaGreat
set_option linter.unusedSimpArgs false
set_option linter.unusedVariables false
set_option maxRecDepth 20000
open Go Go.Proofs Go.Vc
theorem m_4:Pure Tryz.prog 23 [Zqo,.agg [iD 0,.gs none 0,.gs none 0,.gs none 0],ZkQ] (.tup [.gs none 0,iD 8]):=
 Fun.reckonF T mow ZaH (by kernel_rfl) (args:=[ZqU,.agg [.int .i64 0,.nils,.nils,.nils],Zlv]) (g:= .tup [.nils,.int .i64 8]) 20000 (by kernel_rfl) (by kernel_rfl) rfl rfl
theorem m_5:Pure Tryz.prog 25 [Zvt,Zvu] (bD true):=
 Fun.reckonF T mow ZaH (by kernel_rfl) (args:=[ZvC,ZvD]) (g:= .bool true) 20000 (by kernel_rfl) (by kernel_rfl) rfl rfl
theorem m_6:Pure Tryz.prog 27 [Zhp,ZhU,Zu5] (bD true):=
 Fun.reckonF T mow ZaH (by kernel_rfl) (args:=[ZhB,Zih,Zva]) (g:= .bool true) 20000 (by kernel_rfl) (by kernel_rfl) rfl rfl
theorem m_7:Pure Tryz.prog 27 [Zhp,ZhU,Zu6] (bD false):=
 Fun.reckonF T mow ZaH (by kernel_rfl) (args:=[ZhB,Zih,Zvb]) (g:= .bool false) 20000 (by kernel_rfl) (by kernel_rfl) rfl rfl
theorem m_8:Pure Tryz.prog 29 [Zhp,ZkQ,ZhU,bD true,bD true] (iD (-1)):=
 Fun.reckonF T mow ZaH (by kernel_rfl) (args:=[ZhB,Zlv,Zih,.bool true,.bool true]) (g:= .int .i64 (-1)) 20000 (by kernel_rfl) (by kernel_rfl) rfl rfl
theorem m_9:Pure Tryz.prog 29 [Zhp,ZkQ,ZhU,bD false,bD true] (iD 0):=
 Fun.reckonF T mow ZaH (by kernel_rfl) (args:=[ZhB,Zlv,Zih,.bool false,.bool true]) (g:= .int .i64 0) 20000 (by kernel_rfl) (by kernel_rfl) rfl rfl
theorem ZvE:Pure Tryz.prog 31 [Zhp,ZkQ,iD 4,ZhU] (.agg [bD false,bD false,.gs none 0]):=
 Fun.reckonF T mow ZaH (by kernel_rfl) (args:=[ZhB,Zlv,.int .i64 4,Zih]) (g:= .agg [.bool false,.bool false,.nils]) 20000 (by kernel_rfl) (by kernel_rfl) rfl rfl
theorem ZvF:Pure Tryz.prog 25 [.sl true 3 [[bD false,bD false,.gs none 0]],.sl true 3 [[bD false,bD false,.gs none 0]]] (bD true):=
 Fun.reckonF T mow ZaH (by kernel_rfl) (args:=[.sl true 3 [[.bool false,.bool false,.nils]],.sl true 3 [[.bool false,.bool false,.nils]]]) (g:= .bool true) 20000 (by kernel_rfl) (by kernel_rfl) rfl rfl
end Go.Proofs.YthlkpnjjkgmlkaaGreat
