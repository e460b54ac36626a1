/- The facts on the types of the translation that the walks read; each is closed by the kernel. -/
import Derived.Test.YtkhheblmgbiniaaProg
import Derived.Test.YtkhheblmgbiniaaF3
namespace Go.Sy
open Go Go.Proofs

theorem ok_2 : okT Try.prog 2 = true := by kernel_rfl
theorem cs_2 : Try.prog.cellsOf 2 = 1 := by kernel_rfl
theorem rd_2 (l : List AV) : rdAV Try.prog 2 l = l.head? := by kernel_rfl
theorem za_2 : zav Try.prog 2 = some [.v (.int .i64 0)] := by kernel_rfl
theorem un_2 : Try.prog.underlying 2 = some (.int .i64) := by kernel_rfl
theorem ok_3 : okT Try.prog 3 = true := by kernel_rfl
theorem cs_3 : Try.prog.cellsOf 3 = 1 := by kernel_rfl
theorem rd_3 (l : List AV) : rdAV Try.prog 3 l = l.head? := by kernel_rfl
theorem za_3 : zav Try.prog 3 = some [.v (.int .i64 0)] := by kernel_rfl
theorem un_3 : Try.prog.underlying 3 = some (.int .i64) := by kernel_rfl
theorem ok_4 : okT Try.prog 4 = true := by kernel_rfl
theorem cs_4 : Try.prog.cellsOf 4 = 1 := by kernel_rfl
theorem rd_4 (l : List AV) : rdAV Try.prog 4 l = l.head? := by kernel_rfl
theorem za_4 : zav Try.prog 4 = some [.v (.bool false)] := by kernel_rfl
theorem un_4 : Try.prog.underlying 4 = some .bool := by kernel_rfl
theorem ok_5 : okT Try.prog 5 = true := by kernel_rfl
theorem cs_5 : Try.prog.cellsOf 5 = 1 := by kernel_rfl
theorem rd_5 (l : List AV) : rdAV Try.prog 5 l = l.head? := by kernel_rfl
theorem za_5 : zav Try.prog 5 = some [.v (.int .u8 0)] := by kernel_rfl
theorem un_5 : Try.prog.underlying 5 = some (.int .u8) := by kernel_rfl
theorem ok_12 : okT Try.prog 12 = true := by kernel_rfl
theorem cs_12 : Try.prog.cellsOf 12 = 1 := by kernel_rfl
theorem rd_12 (l : List AV) : rdAV Try.prog 12 l = l.head? := by kernel_rfl
theorem za_12 : zav Try.prog 12 = some [.v (.int .u64 0)] := by kernel_rfl
theorem un_12 : Try.prog.underlying 12 = some (.int .u64) := by kernel_rfl
theorem ok_19 : okT Try.prog 19 = true := by kernel_rfl
theorem cs_19 : Try.prog.cellsOf 19 = 1 := by kernel_rfl
theorem rd_19 (l : List AV) : rdAV Try.prog 19 l = if 1 ≤ l.length then some (.agg (l.take 1)) else none := by kernel_rfl
theorem za_19 : zav Try.prog 19 = some [.v (.pointer none)] := by kernel_rfl
theorem fo_19_0 : foff Try.prog 19 0 = some 0 := by kernel_rfl
theorem pt_19_0 : ptype Try.prog 19 0 = 17 := by kernel_rfl
theorem pl_19 : places Try.prog 19 = some [(0, 1)] := by kernel_rfl
theorem ok_21 : okT Try.prog 21 = true := by kernel_rfl
theorem cs_21 : Try.prog.cellsOf 21 = 1 := by kernel_rfl
theorem rd_21 (l : List AV) : rdAV Try.prog 21 l = l.head? := by kernel_rfl
theorem za_21 : zav Try.prog 21 = some [.v (.int .i32 0)] := by kernel_rfl
theorem un_21 : Try.prog.underlying 21 = some (.int .i32) := by kernel_rfl
theorem ok_22 : okT Try.prog 22 = true := by kernel_rfl
theorem cs_22 : Try.prog.cellsOf 22 = 1 := by kernel_rfl
theorem rd_22 (l : List AV) : rdAV Try.prog 22 l = l.head? := by kernel_rfl
theorem za_22 : zav Try.prog 22 = some [.list 1 [] .nil] := by kernel_rfl
theorem es_22 : esz Try.prog 22 = 1 := by kernel_rfl
theorem eb_22 : ebytes Try.prog 22 = 8 := by kernel_rfl
theorem sl_22 : slT Try.prog 22 = true := by kernel_rfl
theorem el_22 : elT Try.prog 22 = 3 := by kernel_rfl
theorem zl_22 : (zvals Try.prog 3).map (fun x => x.length) = some 1 := by kernel_rfl
theorem pt_22 (i : Nat) : ptype Try.prog 22 i = 3 := by kernel_rfl
theorem cst_22 : cst Try.prog 22 (.slice none 0 0) = .list 1 [] .nil := by kernel_rfl
theorem ok_23 : okT Try.prog 23 = true := by kernel_rfl
theorem cs_23 : Try.prog.cellsOf 23 = 1 := by kernel_rfl
theorem rd_23 (l : List AV) : rdAV Try.prog 23 l = l.head? := by kernel_rfl
theorem za_23 : zav Try.prog 23 = some [.list 3 [] .nil] := by kernel_rfl
theorem es_23 : esz Try.prog 23 = 3 := by kernel_rfl
theorem eb_23 : ebytes Try.prog 23 = 24 := by kernel_rfl
theorem sl_23 : slT Try.prog 23 = true := by kernel_rfl
theorem el_23 : elT Try.prog 23 = 105 := by kernel_rfl
theorem zl_23 : (zvals Try.prog 105).map (fun x => x.length) = some 3 := by kernel_rfl
theorem pt_23 (i : Nat) : ptype Try.prog 23 i = 105 := by kernel_rfl
theorem cst_23 : cst Try.prog 23 (.slice none 0 0) = .list 3 [] .nil := by kernel_rfl
theorem ok_25 : okT Try.prog 25 = true := by kernel_rfl
theorem cs_25 : Try.prog.cellsOf 25 = 2 := by kernel_rfl
theorem rd_25 (l : List AV) : rdAV Try.prog 25 l = if 2 ≤ l.length then some (.agg (l.take 2)) else none := by kernel_rfl
theorem za_25 : zav Try.prog 25 = some [.list 1 [] .nil, .list 3 [] .nil] := by kernel_rfl
theorem fo_25_0 : foff Try.prog 25 0 = some 0 := by kernel_rfl
theorem pt_25_0 : ptype Try.prog 25 0 = 22 := by kernel_rfl
theorem fo_25_1 : foff Try.prog 25 1 = some 1 := by kernel_rfl
theorem pt_25_1 : ptype Try.prog 25 1 = 23 := by kernel_rfl
theorem pl_25 : places Try.prog 25 = some [(0, 1), (1, 1)] := by kernel_rfl
theorem ok_28 : okT Try.prog 28 = true := by kernel_rfl
theorem cs_28 : Try.prog.cellsOf 28 = 1 := by kernel_rfl
theorem rd_28 (l : List AV) : rdAV Try.prog 28 l = l.head? := by kernel_rfl
theorem za_28 : zav Try.prog 28 = some [.list 6 [] .nil] := by kernel_rfl
theorem es_28 : esz Try.prog 28 = 6 := by kernel_rfl
theorem eb_28 : ebytes Try.prog 28 = 144 := by kernel_rfl
theorem sl_28 : slT Try.prog 28 = true := by kernel_rfl
theorem el_28 : elT Try.prog 28 = 43 := by kernel_rfl
theorem zl_28 : (zvals Try.prog 43).map (fun x => x.length) = some 6 := by kernel_rfl
theorem pt_28 (i : Nat) : ptype Try.prog 28 i = 43 := by kernel_rfl
theorem cst_28 : cst Try.prog 28 (.slice none 0 0) = .list 6 [] .nil := by kernel_rfl
theorem ok_29 : okT Try.prog 29 = true := by kernel_rfl
theorem cs_29 : Try.prog.cellsOf 29 = 1 := by kernel_rfl
theorem rd_29 (l : List AV) : rdAV Try.prog 29 l = l.head? := by kernel_rfl
theorem za_29 : zav Try.prog 29 = some [.v (.int .i64 0)] := by kernel_rfl
theorem un_29 : Try.prog.underlying 29 = some (.int .i64) := by kernel_rfl
theorem ok_36 : okT Try.prog 36 = true := by kernel_rfl
theorem cs_36 : Try.prog.cellsOf 36 = 1 := by kernel_rfl
theorem rd_36 (l : List AV) : rdAV Try.prog 36 l = l.head? := by kernel_rfl
theorem za_36 : zav Try.prog 36 = some [.list 4 [] .nil] := by kernel_rfl
theorem es_36 : esz Try.prog 36 = 4 := by kernel_rfl
theorem eb_36 : ebytes Try.prog 36 = 96 := by kernel_rfl
theorem sl_36 : slT Try.prog 36 = true := by kernel_rfl
theorem el_36 : elT Try.prog 36 = 92 := by kernel_rfl
theorem zl_36 : (zvals Try.prog 92).map (fun x => x.length) = some 4 := by kernel_rfl
theorem pt_36 (i : Nat) : ptype Try.prog 36 i = 92 := by kernel_rfl
theorem cst_36 : cst Try.prog 36 (.slice none 0 0) = .list 4 [] .nil := by kernel_rfl
theorem ok_41 : okT Try.prog 41 = true := by kernel_rfl
theorem cs_41 : Try.prog.cellsOf 41 = 2 := by kernel_rfl
theorem rd_41 (l : List AV) : rdAV Try.prog 41 l = if 2 ≤ l.length then some (.agg (l.take 2)) else none := by kernel_rfl
theorem za_41 : zav Try.prog 41 = some [.list 1 [] .nil, .list 1 [] .nil] := by kernel_rfl
theorem fo_41_0 : foff Try.prog 41 0 = some 0 := by kernel_rfl
theorem pt_41_0 : ptype Try.prog 41 0 = 22 := by kernel_rfl
theorem fo_41_1 : foff Try.prog 41 1 = some 1 := by kernel_rfl
theorem pt_41_1 : ptype Try.prog 41 1 = 22 := by kernel_rfl
theorem pl_41 : places Try.prog 41 = some [(0, 1), (1, 1)] := by kernel_rfl
theorem ok_43 : okT Try.prog 43 = true := by kernel_rfl
theorem cs_43 : Try.prog.cellsOf 43 = 6 := by kernel_rfl
theorem rd_43 (l : List AV) : rdAV Try.prog 43 l = if 6 ≤ l.length then some (.agg (l.take 6)) else none := by kernel_rfl
theorem za_43 : zav Try.prog 43 = some [.list 1 [] .nil, .list 3 [] .nil, .list 1 [] .nil, .list 1 [] .nil, .list 1 [] .nil, .list 1 [] .nil] := by kernel_rfl
theorem fo_43_0 : foff Try.prog 43 0 = some 0 := by kernel_rfl
theorem pt_43_0 : ptype Try.prog 43 0 = 25 := by kernel_rfl
theorem fo_43_1 : foff Try.prog 43 1 = some 2 := by kernel_rfl
theorem pt_43_1 : ptype Try.prog 43 1 = 41 := by kernel_rfl
theorem fo_43_2 : foff Try.prog 43 2 = some 4 := by kernel_rfl
theorem pt_43_2 : ptype Try.prog 43 2 = 41 := by kernel_rfl
theorem pl_43 : places Try.prog 43 = some [(0, 2), (2, 2), (4, 2)] := by kernel_rfl
theorem ok_47 : okT Try.prog 47 = true := by kernel_rfl
theorem cs_47 : Try.prog.cellsOf 47 = 1 := by kernel_rfl
theorem rd_47 (l : List AV) : rdAV Try.prog 47 l = l.head? := by kernel_rfl
theorem za_47 : zav Try.prog 47 = some [.list 1 [] .nil] := by kernel_rfl
theorem es_47 : esz Try.prog 47 = 1 := by kernel_rfl
theorem eb_47 : ebytes Try.prog 47 = 1 := by kernel_rfl
theorem sl_47 : slT Try.prog 47 = true := by kernel_rfl
theorem el_47 : elT Try.prog 47 = 5 := by kernel_rfl
theorem zl_47 : (zvals Try.prog 5).map (fun x => x.length) = some 1 := by kernel_rfl
theorem pt_47 (i : Nat) : ptype Try.prog 47 i = 5 := by kernel_rfl
theorem cst_47 : cst Try.prog 47 (.slice none 0 0) = .list 1 [] .nil := by kernel_rfl
theorem ok_48 : okT Try.prog 48 = true := by kernel_rfl
theorem cs_48 : Try.prog.cellsOf 48 = 1 := by kernel_rfl
theorem rd_48 (l : List AV) : rdAV Try.prog 48 l = l.head? := by kernel_rfl
theorem za_48 : zav Try.prog 48 = some [.list 3 [] .nil] := by kernel_rfl
theorem es_48 : esz Try.prog 48 = 3 := by kernel_rfl
theorem eb_48 : ebytes Try.prog 48 = 3 := by kernel_rfl
theorem sl_48 : slT Try.prog 48 = true := by kernel_rfl
theorem el_48 : elT Try.prog 48 = 127 := by kernel_rfl
theorem zl_48 : (zvals Try.prog 127).map (fun x => x.length) = some 3 := by kernel_rfl
theorem pt_48 (i : Nat) : ptype Try.prog 48 i = 127 := by kernel_rfl
theorem cst_48 : cst Try.prog 48 (.slice none 0 0) = .list 3 [] .nil := by kernel_rfl
theorem ok_50 : okT Try.prog 50 = true := by kernel_rfl
theorem cs_50 : Try.prog.cellsOf 50 = 2 := by kernel_rfl
theorem rd_50 (l : List AV) : rdAV Try.prog 50 l = if 2 ≤ l.length then some (.agg (l.take 2)) else none := by kernel_rfl
theorem za_50 : zav Try.prog 50 = some [.list 1 [] .nil, .list 3 [] .nil] := by kernel_rfl
theorem fo_50_0 : foff Try.prog 50 0 = some 0 := by kernel_rfl
theorem pt_50_0 : ptype Try.prog 50 0 = 47 := by kernel_rfl
theorem fo_50_1 : foff Try.prog 50 1 = some 1 := by kernel_rfl
theorem pt_50_1 : ptype Try.prog 50 1 = 48 := by kernel_rfl
theorem pl_50 : places Try.prog 50 = some [(0, 1), (1, 1)] := by kernel_rfl
theorem ok_62 : okT Try.prog 62 = true := by kernel_rfl
theorem cs_62 : Try.prog.cellsOf 62 = 5 := by kernel_rfl
theorem rd_62 (l : List AV) : rdAV Try.prog 62 l = if 5 ≤ l.length then some (.agg (l.take 5)) else none := by kernel_rfl
theorem za_62 : zav Try.prog 62 = some [.list 1 [] .nil, .list 3 [] .nil, .list 1 [] .nil, .list 1 [] .nil, .list 1 [] .nil] := by kernel_rfl
theorem fo_62_0 : foff Try.prog 62 0 = some 0 := by kernel_rfl
theorem pt_62_0 : ptype Try.prog 62 0 = 50 := by kernel_rfl
theorem fo_62_1 : foff Try.prog 62 1 = some 2 := by kernel_rfl
theorem pt_62_1 : ptype Try.prog 62 1 = 47 := by kernel_rfl
theorem fo_62_2 : foff Try.prog 62 2 = some 3 := by kernel_rfl
theorem pt_62_2 : ptype Try.prog 62 2 = 47 := by kernel_rfl
theorem fo_62_3 : foff Try.prog 62 3 = some 4 := by kernel_rfl
theorem pt_62_3 : ptype Try.prog 62 3 = 47 := by kernel_rfl
theorem pl_62 : places Try.prog 62 = some [(0, 2), (2, 1), (3, 1), (4, 1)] := by kernel_rfl
theorem ok_63 : okT Try.prog 63 = true := by kernel_rfl
theorem cs_63 : Try.prog.cellsOf 63 = 1 := by kernel_rfl
theorem rd_63 (l : List AV) : rdAV Try.prog 63 l = l.head? := by kernel_rfl
theorem za_63 : zav Try.prog 63 = some [.list 9 [] .nil] := by kernel_rfl
theorem es_63 : esz Try.prog 63 = 9 := by kernel_rfl
theorem eb_63 : ebytes Try.prog 63 = 184 := by kernel_rfl
theorem sl_63 : slT Try.prog 63 = true := by kernel_rfl
theorem el_63 : elT Try.prog 63 = 69 := by kernel_rfl
theorem zl_63 : (zvals Try.prog 69).map (fun x => x.length) = some 9 := by kernel_rfl
theorem pt_63 (i : Nat) : ptype Try.prog 63 i = 69 := by kernel_rfl
theorem cst_63 : cst Try.prog 63 (.slice none 0 0) = .list 9 [] .nil := by kernel_rfl
theorem ok_64 : okT Try.prog 64 = true := by kernel_rfl
theorem cs_64 : Try.prog.cellsOf 64 = 1 := by kernel_rfl
theorem rd_64 (l : List AV) : rdAV Try.prog 64 l = l.head? := by kernel_rfl
theorem za_64 : zav Try.prog 64 = some [.list 4 [] .nil] := by kernel_rfl
theorem es_64 : esz Try.prog 64 = 4 := by kernel_rfl
theorem eb_64 : ebytes Try.prog 64 = 32 := by kernel_rfl
theorem sl_64 : slT Try.prog 64 = true := by kernel_rfl
theorem el_64 : elT Try.prog 64 = 156 := by kernel_rfl
theorem zl_64 : (zvals Try.prog 156).map (fun x => x.length) = some 4 := by kernel_rfl
theorem pt_64 (i : Nat) : ptype Try.prog 64 i = 156 := by kernel_rfl
theorem cst_64 : cst Try.prog 64 (.slice none 0 0) = .list 4 [] .nil := by kernel_rfl
theorem ok_65 : okT Try.prog 65 = true := by kernel_rfl
theorem cs_65 : Try.prog.cellsOf 65 = 1 := by kernel_rfl
theorem rd_65 (l : List AV) : rdAV Try.prog 65 l = l.head? := by kernel_rfl
theorem za_65 : zav Try.prog 65 = some [.list 5 [] .nil] := by kernel_rfl
theorem es_65 : esz Try.prog 65 = 5 := by kernel_rfl
theorem eb_65 : ebytes Try.prog 65 = 40 := by kernel_rfl
theorem sl_65 : slT Try.prog 65 = true := by kernel_rfl
theorem el_65 : elT Try.prog 65 = 158 := by kernel_rfl
theorem zl_65 : (zvals Try.prog 158).map (fun x => x.length) = some 5 := by kernel_rfl
theorem pt_65 (i : Nat) : ptype Try.prog 65 i = 158 := by kernel_rfl
theorem cst_65 : cst Try.prog 65 (.slice none 0 0) = .list 5 [] .nil := by kernel_rfl
theorem ok_67 : okT Try.prog 67 = true := by kernel_rfl
theorem cs_67 : Try.prog.cellsOf 67 = 5 := by kernel_rfl
theorem rd_67 (l : List AV) : rdAV Try.prog 67 l = if 5 ≤ l.length then some (.agg (l.take 5)) else none := by kernel_rfl
theorem za_67 : zav Try.prog 67 = some [.list 1 [] .nil, .list 3 [] .nil, .list 4 [] .nil, .v (.int .i64 0), .list 5 [] .nil] := by kernel_rfl
theorem fo_67_0 : foff Try.prog 67 0 = some 0 := by kernel_rfl
theorem pt_67_0 : ptype Try.prog 67 0 = 25 := by kernel_rfl
theorem fo_67_1 : foff Try.prog 67 1 = some 2 := by kernel_rfl
theorem pt_67_1 : ptype Try.prog 67 1 = 64 := by kernel_rfl
theorem fo_67_2 : foff Try.prog 67 2 = some 3 := by kernel_rfl
theorem pt_67_2 : ptype Try.prog 67 2 = 3 := by kernel_rfl
theorem fo_67_3 : foff Try.prog 67 3 = some 4 := by kernel_rfl
theorem pt_67_3 : ptype Try.prog 67 3 = 65 := by kernel_rfl
theorem pl_67 : places Try.prog 67 = some [(0, 2), (2, 1), (3, 1), (4, 1)] := by kernel_rfl
theorem ok_69 : okT Try.prog 69 = true := by kernel_rfl
theorem cs_69 : Try.prog.cellsOf 69 = 9 := by kernel_rfl
theorem rd_69 (l : List AV) : rdAV Try.prog 69 l = if 9 ≤ l.length then some (.agg (l.take 9)) else none := by kernel_rfl
theorem za_69 : zav Try.prog 69 = some [.v (.int .i64 0), .list 9 [] .nil, .list 1 [] .nil, .list 1 [] .nil, .list 1 [] .nil, .list 3 [] .nil, .list 4 [] .nil, .v (.int .i64 0), .list 5 [] .nil] := by kernel_rfl
theorem fo_69_0 : foff Try.prog 69 0 = some 0 := by kernel_rfl
theorem pt_69_0 : ptype Try.prog 69 0 = 3 := by kernel_rfl
theorem fo_69_1 : foff Try.prog 69 1 = some 1 := by kernel_rfl
theorem pt_69_1 : ptype Try.prog 69 1 = 63 := by kernel_rfl
theorem fo_69_2 : foff Try.prog 69 2 = some 2 := by kernel_rfl
theorem pt_69_2 : ptype Try.prog 69 2 = 41 := by kernel_rfl
theorem fo_69_3 : foff Try.prog 69 3 = some 4 := by kernel_rfl
theorem pt_69_3 : ptype Try.prog 69 3 = 67 := by kernel_rfl
theorem pl_69 : places Try.prog 69 = some [(0, 1), (1, 1), (2, 2), (4, 5)] := by kernel_rfl
theorem ok_76 : okT Try.prog 76 = true := by kernel_rfl
theorem cs_76 : Try.prog.cellsOf 76 = 1 := by kernel_rfl
theorem rd_76 (l : List AV) : rdAV Try.prog 76 l = l.head? := by kernel_rfl
theorem za_76 : zav Try.prog 76 = some [.list 2 [] .nil] := by kernel_rfl
theorem es_76 : esz Try.prog 76 = 2 := by kernel_rfl
theorem eb_76 : ebytes Try.prog 76 = 48 := by kernel_rfl
theorem sl_76 : slT Try.prog 76 = true := by kernel_rfl
theorem el_76 : elT Try.prog 76 = 41 := by kernel_rfl
theorem zl_76 : (zvals Try.prog 41).map (fun x => x.length) = some 2 := by kernel_rfl
theorem pt_76 (i : Nat) : ptype Try.prog 76 i = 41 := by kernel_rfl
theorem cst_76 : cst Try.prog 76 (.slice none 0 0) = .list 2 [] .nil := by kernel_rfl
theorem ok_79 : okT Try.prog 79 = true := by kernel_rfl
theorem cs_79 : Try.prog.cellsOf 79 = 1 := by kernel_rfl
theorem rd_79 (l : List AV) : rdAV Try.prog 79 l = l.head? := by kernel_rfl
theorem za_79 : zav Try.prog 79 = some [.v (.int .u16 0)] := by kernel_rfl
theorem un_79 : Try.prog.underlying 79 = some (.int .u16) := by kernel_rfl
theorem ok_86 : okT Try.prog 86 = true := by kernel_rfl
theorem cs_86 : Try.prog.cellsOf 86 = 4 := by kernel_rfl
theorem rd_86 (l : List AV) : rdAV Try.prog 86 l = if 4 ≤ l.length then some (.agg (l.take 4)) else none := by kernel_rfl
theorem za_86 : zav Try.prog 86 = some [.list 1 [] .nil, .list 3 [] .nil, .list 1 [] .nil, .list 1 [] .nil] := by kernel_rfl
theorem fo_86_0 : foff Try.prog 86 0 = some 0 := by kernel_rfl
theorem pt_86_0 : ptype Try.prog 86 0 = 25 := by kernel_rfl
theorem fo_86_1 : foff Try.prog 86 1 = some 2 := by kernel_rfl
theorem pt_86_1 : ptype Try.prog 86 1 = 41 := by kernel_rfl
theorem pl_86 : places Try.prog 86 = some [(0, 2), (2, 2)] := by kernel_rfl
theorem ok_92 : okT Try.prog 92 = true := by kernel_rfl
theorem cs_92 : Try.prog.cellsOf 92 = 4 := by kernel_rfl
theorem rd_92 (l : List AV) : rdAV Try.prog 92 l = if 4 ≤ l.length then some (.agg (l.take 4)) else none := by kernel_rfl
theorem za_92 : zav Try.prog 92 = some [.list 1 [] .nil, .list 3 [] .nil, .list 1 [] .nil, .list 1 [] .nil] := by kernel_rfl
theorem fo_92_0 : foff Try.prog 92 0 = some 0 := by kernel_rfl
theorem pt_92_0 : ptype Try.prog 92 0 = 25 := by kernel_rfl
theorem fo_92_1 : foff Try.prog 92 1 = some 2 := by kernel_rfl
theorem pt_92_1 : ptype Try.prog 92 1 = 41 := by kernel_rfl
theorem pl_92 : places Try.prog 92 = some [(0, 2), (2, 2)] := by kernel_rfl
theorem ok_105 : okT Try.prog 105 = true := by kernel_rfl
theorem cs_105 : Try.prog.cellsOf 105 = 3 := by kernel_rfl
theorem rd_105 (l : List AV) : rdAV Try.prog 105 l = if 3 ≤ l.length then some (.agg (l.take 3)) else none := by kernel_rfl
theorem za_105 : zav Try.prog 105 = some [.v (.int .i64 0), .v (.int .i64 0), .v (.int .i64 0)] := by kernel_rfl
theorem fo_105_0 : foff Try.prog 105 0 = some 0 := by kernel_rfl
theorem pt_105_0 : ptype Try.prog 105 0 = 3 := by kernel_rfl
theorem fo_105_1 : foff Try.prog 105 1 = some 1 := by kernel_rfl
theorem pt_105_1 : ptype Try.prog 105 1 = 3 := by kernel_rfl
theorem fo_105_2 : foff Try.prog 105 2 = some 2 := by kernel_rfl
theorem pt_105_2 : ptype Try.prog 105 2 = 3 := by kernel_rfl
theorem pl_105 : places Try.prog 105 = some [(0, 1), (1, 1), (2, 1)] := by kernel_rfl
theorem is_105 : intStruct Try.prog 105 = true := by kernel_rfl
theorem ok_107 : okT Try.prog 107 = true := by kernel_rfl
theorem cs_107 : Try.prog.cellsOf 107 = 1 := by kernel_rfl
theorem rd_107 (l : List AV) : rdAV Try.prog 107 l = l.head? := by kernel_rfl
theorem za_107 : zav Try.prog 107 = some [.list 2 [] .nil] := by kernel_rfl
theorem es_107 : esz Try.prog 107 = 2 := by kernel_rfl
theorem eb_107 : ebytes Try.prog 107 = 48 := by kernel_rfl
theorem sl_107 : slT Try.prog 107 = true := by kernel_rfl
theorem el_107 : elT Try.prog 107 = 25 := by kernel_rfl
theorem zl_107 : (zvals Try.prog 25).map (fun x => x.length) = some 2 := by kernel_rfl
theorem pt_107 (i : Nat) : ptype Try.prog 107 i = 25 := by kernel_rfl
theorem cst_107 : cst Try.prog 107 (.slice none 0 0) = .list 2 [] .nil := by kernel_rfl
theorem ok_108 : okT Try.prog 108 = true := by kernel_rfl
theorem cs_108 : Try.prog.cellsOf 108 = 1 := by kernel_rfl
theorem rd_108 (l : List AV) : rdAV Try.prog 108 l = l.head? := by kernel_rfl
theorem za_108 : zav Try.prog 108 = some [.v (.pointer none)] := by kernel_rfl
theorem ok_110 : okT Try.prog 110 = true := by kernel_rfl
theorem cs_110 : Try.prog.cellsOf 110 = 5 := by kernel_rfl
theorem rd_110 (l : List AV) : rdAV Try.prog 110 l = if 5 ≤ l.length then some (.agg (l.take 5)) else none := by kernel_rfl
theorem za_110 : zav Try.prog 110 = some [.list 1 [] .nil, .list 3 [] .nil, .list 1 [] .nil, .list 3 [] .nil, .list 6 [] .nil] := by kernel_rfl
theorem fo_110_0 : foff Try.prog 110 0 = some 0 := by kernel_rfl
theorem pt_110_0 : ptype Try.prog 110 0 = 25 := by kernel_rfl
theorem fo_110_1 : foff Try.prog 110 1 = some 2 := by kernel_rfl
theorem pt_110_1 : ptype Try.prog 110 1 = 25 := by kernel_rfl
theorem fo_110_2 : foff Try.prog 110 2 = some 4 := by kernel_rfl
theorem pt_110_2 : ptype Try.prog 110 2 = 28 := by kernel_rfl
theorem pl_110 : places Try.prog 110 = some [(0, 2), (2, 2), (4, 1)] := by kernel_rfl
theorem ok_112 : okT Try.prog 112 = true := by kernel_rfl
theorem cs_112 : Try.prog.cellsOf 112 = 1 := by kernel_rfl
theorem rd_112 (l : List AV) : rdAV Try.prog 112 l = l.head? := by kernel_rfl
theorem za_112 : zav Try.prog 112 = some [.v (.pointer none)] := by kernel_rfl
theorem ok_114 : okT Try.prog 114 = true := by kernel_rfl
theorem cs_114 : Try.prog.cellsOf 114 = 5 := by kernel_rfl
theorem rd_114 (l : List AV) : rdAV Try.prog 114 l = if 5 ≤ l.length then some (.agg (l.take 5)) else none := by kernel_rfl
theorem za_114 : zav Try.prog 114 = some [.list 1 [] .nil, .list 3 [] .nil, .list 1 [] .nil, .list 3 [] .nil, .list 6 [] .nil] := by kernel_rfl
theorem fo_114_0 : foff Try.prog 114 0 = some 0 := by kernel_rfl
theorem pt_114_0 : ptype Try.prog 114 0 = 25 := by kernel_rfl
theorem fo_114_1 : foff Try.prog 114 1 = some 2 := by kernel_rfl
theorem pt_114_1 : ptype Try.prog 114 1 = 25 := by kernel_rfl
theorem fo_114_2 : foff Try.prog 114 2 = some 4 := by kernel_rfl
theorem pt_114_2 : ptype Try.prog 114 2 = 28 := by kernel_rfl
theorem pl_114 : places Try.prog 114 = some [(0, 2), (2, 2), (4, 1)] := by kernel_rfl
theorem ok_115 : okT Try.prog 115 = true := by kernel_rfl
theorem cs_115 : Try.prog.cellsOf 115 = 1 := by kernel_rfl
theorem rd_115 (l : List AV) : rdAV Try.prog 115 l = l.head? := by kernel_rfl
theorem za_115 : zav Try.prog 115 = some [.list 1 [] .nil] := by kernel_rfl
theorem es_115 : esz Try.prog 115 = 1 := by kernel_rfl
theorem eb_115 : ebytes Try.prog 115 = 24 := by kernel_rfl
theorem sl_115 : slT Try.prog 115 = true := by kernel_rfl
theorem el_115 : elT Try.prog 115 = 22 := by kernel_rfl
theorem zl_115 : (zvals Try.prog 22).map (fun x => x.length) = some 1 := by kernel_rfl
theorem pt_115 (i : Nat) : ptype Try.prog 115 i = 22 := by kernel_rfl
theorem cst_115 : cst Try.prog 115 (.slice none 0 0) = .list 1 [] .nil := by kernel_rfl
theorem ok_121 : okT Try.prog 121 = true := by kernel_rfl
theorem cs_121 : Try.prog.cellsOf 121 = 1 := by kernel_rfl
theorem rd_121 (l : List AV) : rdAV Try.prog 121 l = l.head? := by kernel_rfl
theorem za_121 : zav Try.prog 121 = some [.v (.pointer none)] := by kernel_rfl
theorem ok_123 : okT Try.prog 123 = true := by kernel_rfl
theorem cs_123 : Try.prog.cellsOf 123 = 3 := by kernel_rfl
theorem rd_123 (l : List AV) : rdAV Try.prog 123 l = if 3 ≤ l.length then some (.agg (l.take 3)) else none := by kernel_rfl
theorem za_123 : zav Try.prog 123 = some [.list 1 [] .nil, .list 3 [] .nil, .list 4 [] .nil] := by kernel_rfl
theorem fo_123_0 : foff Try.prog 123 0 = some 0 := by kernel_rfl
theorem pt_123_0 : ptype Try.prog 123 0 = 25 := by kernel_rfl
theorem fo_123_1 : foff Try.prog 123 1 = some 2 := by kernel_rfl
theorem pt_123_1 : ptype Try.prog 123 1 = 36 := by kernel_rfl
theorem pl_123 : places Try.prog 123 = some [(0, 2), (2, 1)] := by kernel_rfl
theorem ok_127 : okT Try.prog 127 = true := by kernel_rfl
theorem cs_127 : Try.prog.cellsOf 127 = 3 := by kernel_rfl
theorem rd_127 (l : List AV) : rdAV Try.prog 127 l = if 3 ≤ l.length then some (.agg (l.take 3)) else none := by kernel_rfl
theorem za_127 : zav Try.prog 127 = some [.v (.int .u8 0), .v (.int .u8 0), .v (.int .u8 0)] := by kernel_rfl
theorem un_127 : Try.prog.underlying 127 = some (.array 3 5) := by kernel_rfl
theorem ok_139 : okT Try.prog 139 = true := by kernel_rfl
theorem cs_139 : Try.prog.cellsOf 139 = 1 := by kernel_rfl
theorem rd_139 (l : List AV) : rdAV Try.prog 139 l = l.head? := by kernel_rfl
theorem za_139 : zav Try.prog 139 = some [.v (.pointer none)] := by kernel_rfl
theorem ok_141 : okT Try.prog 141 = true := by kernel_rfl
theorem cs_141 : Try.prog.cellsOf 141 = 9 := by kernel_rfl
theorem rd_141 (l : List AV) : rdAV Try.prog 141 l = if 9 ≤ l.length then some (.agg (l.take 9)) else none := by kernel_rfl
theorem za_141 : zav Try.prog 141 = some [.list 1 [] .nil, .list 3 [] .nil, .list 1 [] .nil, .list 3 [] .nil, .list 1 [] .nil, .list 1 [] .nil, .list 1 [] .nil, .list 1 [] .nil, .list 2 [] .nil] := by kernel_rfl
theorem fo_141_0 : foff Try.prog 141 0 = some 0 := by kernel_rfl
theorem pt_141_0 : ptype Try.prog 141 0 = 25 := by kernel_rfl
theorem fo_141_1 : foff Try.prog 141 1 = some 2 := by kernel_rfl
theorem pt_141_1 : ptype Try.prog 141 1 = 25 := by kernel_rfl
theorem fo_141_2 : foff Try.prog 141 2 = some 4 := by kernel_rfl
theorem pt_141_2 : ptype Try.prog 141 2 = 41 := by kernel_rfl
theorem fo_141_3 : foff Try.prog 141 3 = some 6 := by kernel_rfl
theorem pt_141_3 : ptype Try.prog 141 3 = 41 := by kernel_rfl
theorem fo_141_4 : foff Try.prog 141 4 = some 8 := by kernel_rfl
theorem pt_141_4 : ptype Try.prog 141 4 = 76 := by kernel_rfl
theorem pl_141 : places Try.prog 141 = some [(0, 2), (2, 2), (4, 2), (6, 2), (8, 1)] := by kernel_rfl
theorem ok_154 : okT Try.prog 154 = true := by kernel_rfl
theorem cs_154 : Try.prog.cellsOf 154 = 2 := by kernel_rfl
theorem rd_154 (l : List AV) : rdAV Try.prog 154 l = if 2 ≤ l.length then some (.agg (l.take 2)) else none := by kernel_rfl
theorem za_154 : zav Try.prog 154 = some [.v (.int .i64 0), .v (.int .i64 0)] := by kernel_rfl
theorem fo_154_0 : foff Try.prog 154 0 = some 0 := by kernel_rfl
theorem pt_154_0 : ptype Try.prog 154 0 = 3 := by kernel_rfl
theorem fo_154_1 : foff Try.prog 154 1 = some 1 := by kernel_rfl
theorem pt_154_1 : ptype Try.prog 154 1 = 3 := by kernel_rfl
theorem pl_154 : places Try.prog 154 = some [(0, 1), (1, 1)] := by kernel_rfl
theorem is_154 : intStruct Try.prog 154 = true := by kernel_rfl
theorem ok_156 : okT Try.prog 156 = true := by kernel_rfl
theorem cs_156 : Try.prog.cellsOf 156 = 4 := by kernel_rfl
theorem rd_156 (l : List AV) : rdAV Try.prog 156 l = if 4 ≤ l.length then some (.agg (l.take 4)) else none := by kernel_rfl
theorem za_156 : zav Try.prog 156 = some [.v (.int .i64 0), .v (.int .i64 0), .v (.int .i64 0), .v (.int .i64 0)] := by kernel_rfl
theorem fo_156_0 : foff Try.prog 156 0 = some 0 := by kernel_rfl
theorem pt_156_0 : ptype Try.prog 156 0 = 3 := by kernel_rfl
theorem fo_156_1 : foff Try.prog 156 1 = some 1 := by kernel_rfl
theorem pt_156_1 : ptype Try.prog 156 1 = 3 := by kernel_rfl
theorem fo_156_2 : foff Try.prog 156 2 = some 2 := by kernel_rfl
theorem pt_156_2 : ptype Try.prog 156 2 = 154 := by kernel_rfl
theorem pl_156 : places Try.prog 156 = some [(0, 1), (1, 1), (2, 2)] := by kernel_rfl
theorem ok_158 : okT Try.prog 158 = true := by kernel_rfl
theorem cs_158 : Try.prog.cellsOf 158 = 5 := by kernel_rfl
theorem rd_158 (l : List AV) : rdAV Try.prog 158 l = if 5 ≤ l.length then some (.agg (l.take 5)) else none := by kernel_rfl
theorem za_158 : zav Try.prog 158 = some [.v (.int .i64 0), .v (.int .i64 0), .v (.int .i64 0), .v (.int .i64 0), .v (.int .i64 0)] := by kernel_rfl
theorem fo_158_0 : foff Try.prog 158 0 = some 0 := by kernel_rfl
theorem pt_158_0 : ptype Try.prog 158 0 = 3 := by kernel_rfl
theorem fo_158_1 : foff Try.prog 158 1 = some 1 := by kernel_rfl
theorem pt_158_1 : ptype Try.prog 158 1 = 154 := by kernel_rfl
theorem fo_158_2 : foff Try.prog 158 2 = some 3 := by kernel_rfl
theorem pt_158_2 : ptype Try.prog 158 2 = 154 := by kernel_rfl
theorem pl_158 : places Try.prog 158 = some [(0, 1), (1, 2), (3, 2)] := by kernel_rfl
theorem ok_168 : okT Try.prog 168 = true := by kernel_rfl
theorem cs_168 : Try.prog.cellsOf 168 = 1 := by kernel_rfl
theorem rd_168 (l : List AV) : rdAV Try.prog 168 l = l.head? := by kernel_rfl
theorem za_168 : zav Try.prog 168 = some [.v (.pointer none)] := by kernel_rfl
theorem ok_170 : okT Try.prog 170 = true := by kernel_rfl
theorem cs_170 : Try.prog.cellsOf 170 = 3 := by kernel_rfl
theorem rd_170 (l : List AV) : rdAV Try.prog 170 l = if 3 ≤ l.length then some (.agg (l.take 3)) else none := by kernel_rfl
theorem za_170 : zav Try.prog 170 = some [.list 1 [] .nil, .v (.int .i64 0), .v (.int .i64 0)] := by kernel_rfl
theorem fo_170_0 : foff Try.prog 170 0 = some 0 := by kernel_rfl
theorem pt_170_0 : ptype Try.prog 170 0 = 47 := by kernel_rfl
theorem fo_170_1 : foff Try.prog 170 1 = some 1 := by kernel_rfl
theorem pt_170_1 : ptype Try.prog 170 1 = 3 := by kernel_rfl
theorem fo_170_2 : foff Try.prog 170 2 = some 2 := by kernel_rfl
theorem pt_170_2 : ptype Try.prog 170 2 = 3 := by kernel_rfl
theorem pl_170 : places Try.prog 170 = some [(0, 1), (1, 1), (2, 1)] := by kernel_rfl
theorem ok_172 : okT Try.prog 172 = true := by kernel_rfl
theorem cs_172 : Try.prog.cellsOf 172 = 1 := by kernel_rfl
theorem rd_172 (l : List AV) : rdAV Try.prog 172 l = l.head? := by kernel_rfl
theorem za_172 : zav Try.prog 172 = some [.v (.pointer none)] := by kernel_rfl
theorem ok_174 : okT Try.prog 174 = true := by kernel_rfl
theorem cs_174 : Try.prog.cellsOf 174 = 2 := by kernel_rfl
theorem rd_174 (l : List AV) : rdAV Try.prog 174 l = if 2 ≤ l.length then some (.agg (l.take 2)) else none := by kernel_rfl
theorem za_174 : zav Try.prog 174 = some [.v (.int .i64 0), .v (.int .i64 0)] := by kernel_rfl
theorem fo_174_0 : foff Try.prog 174 0 = some 0 := by kernel_rfl
theorem pt_174_0 : ptype Try.prog 174 0 = 3 := by kernel_rfl
theorem fo_174_1 : foff Try.prog 174 1 = some 1 := by kernel_rfl
theorem pt_174_1 : ptype Try.prog 174 1 = 29 := by kernel_rfl
theorem pl_174 : places Try.prog 174 = some [(0, 1), (1, 1)] := by kernel_rfl
theorem is_174 : intStruct Try.prog 174 = true := by kernel_rfl
theorem ok_178 : okT Try.prog 178 = true := by kernel_rfl
theorem cs_178 : Try.prog.cellsOf 178 = 1 := by kernel_rfl
theorem rd_178 (l : List AV) : rdAV Try.prog 178 l = l.head? := by kernel_rfl
theorem za_178 : zav Try.prog 178 = some [.v (.pointer none)] := by kernel_rfl
theorem ok_182 : okT Try.prog 182 = true := by kernel_rfl
theorem cs_182 : Try.prog.cellsOf 182 = 7 := by kernel_rfl
theorem rd_182 (l : List AV) : rdAV Try.prog 182 l = if 7 ≤ l.length then some (.agg (l.take 7)) else none := by kernel_rfl
theorem fo_182_0 : foff Try.prog 182 0 = some 0 := by kernel_rfl
theorem pt_182_0 : ptype Try.prog 182 0 = 25 := by kernel_rfl
theorem fo_182_1 : foff Try.prog 182 1 = some 2 := by kernel_rfl
theorem pt_182_1 : ptype Try.prog 182 1 = 25 := by kernel_rfl
theorem fo_182_2 : foff Try.prog 182 2 = some 4 := by kernel_rfl
theorem pt_182_2 : ptype Try.prog 182 2 = 22 := by kernel_rfl
theorem fo_182_3 : foff Try.prog 182 3 = some 5 := by kernel_rfl
theorem pt_182_3 : ptype Try.prog 182 3 = 22 := by kernel_rfl
theorem fo_182_4 : foff Try.prog 182 4 = some 6 := by kernel_rfl
theorem pt_182_4 : ptype Try.prog 182 4 = 180 := by kernel_rfl
theorem pl_182 : places Try.prog 182 = some [(0, 2), (2, 2), (4, 1), (5, 1), (6, 1)] := by kernel_rfl
theorem ok_197 : okT Try.prog 197 = true := by kernel_rfl
theorem cs_197 : Try.prog.cellsOf 197 = 1 := by kernel_rfl
theorem rd_197 (l : List AV) : rdAV Try.prog 197 l = l.head? := by kernel_rfl
theorem za_197 : zav Try.prog 197 = some [.v (.int .u64 0)] := by kernel_rfl
theorem un_197 : Try.prog.underlying 197 = some (.int .u64) := by kernel_rfl
theorem ok_202 : okT Try.prog 202 = true := by kernel_rfl
theorem cs_202 : Try.prog.cellsOf 202 = 1 := by kernel_rfl
theorem rd_202 (l : List AV) : rdAV Try.prog 202 l = l.head? := by kernel_rfl
theorem za_202 : zav Try.prog 202 = some [.v (.int .i64 0)] := by kernel_rfl
theorem un_202 : Try.prog.underlying 202 = some (.int .i64) := by kernel_rfl
theorem ok_210 : okT Try.prog 210 = true := by kernel_rfl
theorem cs_210 : Try.prog.cellsOf 210 = 1 := by kernel_rfl
theorem rd_210 (l : List AV) : rdAV Try.prog 210 l = l.head? := by kernel_rfl
theorem za_210 : zav Try.prog 210 = some [.v (.int .u32 0)] := by kernel_rfl
theorem un_210 : Try.prog.underlying 210 = some (.int .u32) := by kernel_rfl
theorem ok_212 : okT Try.prog 212 = true := by kernel_rfl
theorem cs_212 : Try.prog.cellsOf 212 = 1 := by kernel_rfl
theorem rd_212 (l : List AV) : rdAV Try.prog 212 l = l.head? := by kernel_rfl
theorem za_212 : zav Try.prog 212 = some [.v (.int .u64 0)] := by kernel_rfl
theorem un_212 : Try.prog.underlying 212 = some (.int .u64) := by kernel_rfl
theorem ok_221 : okT Try.prog 221 = true := by kernel_rfl
theorem cs_221 : Try.prog.cellsOf 221 = 1 := by kernel_rfl
theorem rd_221 (l : List AV) : rdAV Try.prog 221 l = l.head? := by kernel_rfl
theorem za_221 : zav Try.prog 221 = some [.v (.pointer none)] := by kernel_rfl
theorem ok_234 : okT Try.prog 234 = true := by kernel_rfl
theorem cs_234 : Try.prog.cellsOf 234 = 1 := by kernel_rfl
theorem rd_234 (l : List AV) : rdAV Try.prog 234 l = l.head? := by kernel_rfl
theorem za_234 : zav Try.prog 234 = some [.v (.pointer none)] := by kernel_rfl
theorem ip_0 : isPtrT Try.prog 0 = false := by kernel_rfl
theorem ip_1 : isPtrT Try.prog 1 = false := by kernel_rfl
theorem ip_2 : isPtrT Try.prog 2 = false := by kernel_rfl
theorem ip_3 : isPtrT Try.prog 3 = false := by kernel_rfl
theorem ip_4 : isPtrT Try.prog 4 = false := by kernel_rfl
theorem ip_5 : isPtrT Try.prog 5 = false := by kernel_rfl
theorem ip_6 : isPtrT Try.prog 6 = false := by kernel_rfl
theorem ip_8 : isPtrT Try.prog 8 = false := by kernel_rfl
theorem ip_9 : isPtrT Try.prog 9 = false := by kernel_rfl
theorem ip_10 : isPtrT Try.prog 10 = false := by kernel_rfl
theorem ip_11 : isPtrT Try.prog 11 = false := by kernel_rfl
theorem ip_12 : isPtrT Try.prog 12 = false := by kernel_rfl
theorem ip_14 : isPtrT Try.prog 14 = false := by kernel_rfl
theorem ip_15 : isPtrT Try.prog 15 = true := by kernel_rfl
theorem ip_16 : isPtrT Try.prog 16 = true := by kernel_rfl
theorem ip_17 : isPtrT Try.prog 17 = true := by kernel_rfl
theorem ip_19 : isPtrT Try.prog 19 = false := by kernel_rfl
theorem ip_20 : isPtrT Try.prog 20 = false := by kernel_rfl
theorem ip_21 : isPtrT Try.prog 21 = false := by kernel_rfl
theorem ip_22 : isPtrT Try.prog 22 = false := by kernel_rfl
theorem ip_23 : isPtrT Try.prog 23 = false := by kernel_rfl
theorem ip_25 : isPtrT Try.prog 25 = false := by kernel_rfl
theorem ip_26 : isPtrT Try.prog 26 = false := by kernel_rfl
theorem ip_27 : isPtrT Try.prog 27 = false := by kernel_rfl
theorem ip_28 : isPtrT Try.prog 28 = false := by kernel_rfl
theorem ip_29 : isPtrT Try.prog 29 = false := by kernel_rfl
theorem ip_30 : isPtrT Try.prog 30 = false := by kernel_rfl
theorem ip_31 : isPtrT Try.prog 31 = false := by kernel_rfl
theorem ip_32 : isPtrT Try.prog 32 = false := by kernel_rfl
theorem ip_33 : isPtrT Try.prog 33 = false := by kernel_rfl
theorem ip_34 : isPtrT Try.prog 34 = false := by kernel_rfl
theorem ip_35 : isPtrT Try.prog 35 = false := by kernel_rfl
theorem ip_36 : isPtrT Try.prog 36 = false := by kernel_rfl
theorem ip_37 : isPtrT Try.prog 37 = false := by kernel_rfl
theorem ip_38 : isPtrT Try.prog 38 = false := by kernel_rfl
theorem ip_39 : isPtrT Try.prog 39 = false := by kernel_rfl
theorem ip_41 : isPtrT Try.prog 41 = false := by kernel_rfl
theorem ip_43 : isPtrT Try.prog 43 = false := by kernel_rfl
theorem ip_44 : isPtrT Try.prog 44 = false := by kernel_rfl
theorem ip_45 : isPtrT Try.prog 45 = false := by kernel_rfl
theorem ip_46 : isPtrT Try.prog 46 = false := by kernel_rfl
theorem ip_47 : isPtrT Try.prog 47 = false := by kernel_rfl
theorem ip_48 : isPtrT Try.prog 48 = false := by kernel_rfl
theorem ip_50 : isPtrT Try.prog 50 = false := by kernel_rfl
theorem ip_51 : isPtrT Try.prog 51 = false := by kernel_rfl
theorem ip_52 : isPtrT Try.prog 52 = false := by kernel_rfl
theorem ip_53 : isPtrT Try.prog 53 = false := by kernel_rfl
theorem ip_54 : isPtrT Try.prog 54 = false := by kernel_rfl
theorem ip_55 : isPtrT Try.prog 55 = false := by kernel_rfl
theorem ip_56 : isPtrT Try.prog 56 = false := by kernel_rfl
theorem ip_57 : isPtrT Try.prog 57 = false := by kernel_rfl
theorem ip_58 : isPtrT Try.prog 58 = false := by kernel_rfl
theorem ip_59 : isPtrT Try.prog 59 = false := by kernel_rfl
theorem ip_60 : isPtrT Try.prog 60 = false := by kernel_rfl
theorem ip_62 : isPtrT Try.prog 62 = false := by kernel_rfl
theorem ip_63 : isPtrT Try.prog 63 = false := by kernel_rfl
theorem ip_64 : isPtrT Try.prog 64 = false := by kernel_rfl
theorem ip_65 : isPtrT Try.prog 65 = false := by kernel_rfl
theorem ip_67 : isPtrT Try.prog 67 = false := by kernel_rfl
theorem ip_69 : isPtrT Try.prog 69 = false := by kernel_rfl
theorem ip_70 : isPtrT Try.prog 70 = false := by kernel_rfl
theorem ip_71 : isPtrT Try.prog 71 = false := by kernel_rfl
theorem ip_72 : isPtrT Try.prog 72 = false := by kernel_rfl
theorem ip_73 : isPtrT Try.prog 73 = false := by kernel_rfl
theorem ip_74 : isPtrT Try.prog 74 = false := by kernel_rfl
theorem ip_75 : isPtrT Try.prog 75 = false := by kernel_rfl
theorem ip_76 : isPtrT Try.prog 76 = false := by kernel_rfl
theorem ip_77 : isPtrT Try.prog 77 = false := by kernel_rfl
theorem ip_78 : isPtrT Try.prog 78 = false := by kernel_rfl
theorem ip_79 : isPtrT Try.prog 79 = false := by kernel_rfl
theorem ip_80 : isPtrT Try.prog 80 = false := by kernel_rfl
theorem ip_81 : isPtrT Try.prog 81 = false := by kernel_rfl
theorem ip_82 : isPtrT Try.prog 82 = false := by kernel_rfl
theorem ip_83 : isPtrT Try.prog 83 = false := by kernel_rfl
theorem ip_84 : isPtrT Try.prog 84 = false := by kernel_rfl
theorem ip_86 : isPtrT Try.prog 86 = false := by kernel_rfl
theorem ip_87 : isPtrT Try.prog 87 = false := by kernel_rfl
theorem ip_88 : isPtrT Try.prog 88 = false := by kernel_rfl
theorem ip_89 : isPtrT Try.prog 89 = false := by kernel_rfl
theorem ip_90 : isPtrT Try.prog 90 = false := by kernel_rfl
theorem ip_92 : isPtrT Try.prog 92 = false := by kernel_rfl
theorem ip_93 : isPtrT Try.prog 93 = false := by kernel_rfl
theorem ip_94 : isPtrT Try.prog 94 = false := by kernel_rfl
theorem ip_95 : isPtrT Try.prog 95 = false := by kernel_rfl
theorem ip_96 : isPtrT Try.prog 96 = false := by kernel_rfl
theorem ip_97 : isPtrT Try.prog 97 = false := by kernel_rfl
theorem ip_98 : isPtrT Try.prog 98 = false := by kernel_rfl
theorem ip_99 : isPtrT Try.prog 99 = false := by kernel_rfl
theorem ip_100 : isPtrT Try.prog 100 = false := by kernel_rfl
theorem ip_101 : isPtrT Try.prog 101 = false := by kernel_rfl
theorem ip_102 : isPtrT Try.prog 102 = false := by kernel_rfl
theorem ip_103 : isPtrT Try.prog 103 = false := by kernel_rfl
theorem ip_105 : isPtrT Try.prog 105 = false := by kernel_rfl
theorem ip_106 : isPtrT Try.prog 106 = false := by kernel_rfl
theorem ip_107 : isPtrT Try.prog 107 = false := by kernel_rfl
theorem ip_108 : isPtrT Try.prog 108 = true := by kernel_rfl
theorem ip_110 : isPtrT Try.prog 110 = false := by kernel_rfl
theorem ip_111 : isPtrT Try.prog 111 = false := by kernel_rfl
theorem ip_112 : isPtrT Try.prog 112 = true := by kernel_rfl
theorem ip_114 : isPtrT Try.prog 114 = false := by kernel_rfl
theorem ip_115 : isPtrT Try.prog 115 = false := by kernel_rfl
theorem ip_116 : isPtrT Try.prog 116 = false := by kernel_rfl
theorem ip_117 : isPtrT Try.prog 117 = false := by kernel_rfl
theorem ip_118 : isPtrT Try.prog 118 = false := by kernel_rfl
theorem ip_119 : isPtrT Try.prog 119 = false := by kernel_rfl
theorem ip_120 : isPtrT Try.prog 120 = false := by kernel_rfl
theorem ip_121 : isPtrT Try.prog 121 = true := by kernel_rfl
theorem ip_123 : isPtrT Try.prog 123 = false := by kernel_rfl
theorem ip_124 : isPtrT Try.prog 124 = false := by kernel_rfl
theorem ip_125 : isPtrT Try.prog 125 = false := by kernel_rfl
theorem ip_126 : isPtrT Try.prog 126 = false := by kernel_rfl
theorem ip_127 : isPtrT Try.prog 127 = false := by kernel_rfl
theorem ip_128 : isPtrT Try.prog 128 = false := by kernel_rfl
theorem ip_129 : isPtrT Try.prog 129 = false := by kernel_rfl
theorem ip_130 : isPtrT Try.prog 130 = false := by kernel_rfl
theorem ip_131 : isPtrT Try.prog 131 = false := by kernel_rfl
theorem ip_132 : isPtrT Try.prog 132 = false := by kernel_rfl
theorem ip_133 : isPtrT Try.prog 133 = false := by kernel_rfl
theorem ip_134 : isPtrT Try.prog 134 = false := by kernel_rfl
theorem ip_135 : isPtrT Try.prog 135 = false := by kernel_rfl
theorem ip_136 : isPtrT Try.prog 136 = false := by kernel_rfl
theorem ip_137 : isPtrT Try.prog 137 = false := by kernel_rfl
theorem ip_138 : isPtrT Try.prog 138 = false := by kernel_rfl
theorem ip_139 : isPtrT Try.prog 139 = true := by kernel_rfl
theorem ip_141 : isPtrT Try.prog 141 = false := by kernel_rfl
theorem ip_142 : isPtrT Try.prog 142 = false := by kernel_rfl
theorem ip_143 : isPtrT Try.prog 143 = false := by kernel_rfl
theorem ip_144 : isPtrT Try.prog 144 = false := by kernel_rfl
theorem ip_145 : isPtrT Try.prog 145 = false := by kernel_rfl
theorem ip_146 : isPtrT Try.prog 146 = false := by kernel_rfl
theorem ip_147 : isPtrT Try.prog 147 = false := by kernel_rfl
theorem ip_148 : isPtrT Try.prog 148 = false := by kernel_rfl
theorem ip_149 : isPtrT Try.prog 149 = false := by kernel_rfl
theorem ip_150 : isPtrT Try.prog 150 = false := by kernel_rfl
theorem ip_151 : isPtrT Try.prog 151 = false := by kernel_rfl
theorem ip_152 : isPtrT Try.prog 152 = false := by kernel_rfl
theorem ip_154 : isPtrT Try.prog 154 = false := by kernel_rfl
theorem ip_156 : isPtrT Try.prog 156 = false := by kernel_rfl
theorem ip_158 : isPtrT Try.prog 158 = false := by kernel_rfl
theorem ip_159 : isPtrT Try.prog 159 = false := by kernel_rfl
theorem ip_160 : isPtrT Try.prog 160 = false := by kernel_rfl
theorem ip_161 : isPtrT Try.prog 161 = false := by kernel_rfl
theorem ip_162 : isPtrT Try.prog 162 = false := by kernel_rfl
theorem ip_163 : isPtrT Try.prog 163 = false := by kernel_rfl
theorem ip_164 : isPtrT Try.prog 164 = false := by kernel_rfl
theorem ip_165 : isPtrT Try.prog 165 = false := by kernel_rfl
theorem ip_166 : isPtrT Try.prog 166 = false := by kernel_rfl
theorem ip_167 : isPtrT Try.prog 167 = false := by kernel_rfl
theorem ip_168 : isPtrT Try.prog 168 = true := by kernel_rfl
theorem ip_170 : isPtrT Try.prog 170 = false := by kernel_rfl
theorem ip_171 : isPtrT Try.prog 171 = false := by kernel_rfl
theorem ip_172 : isPtrT Try.prog 172 = true := by kernel_rfl
theorem ip_174 : isPtrT Try.prog 174 = false := by kernel_rfl
theorem ip_175 : isPtrT Try.prog 175 = false := by kernel_rfl
theorem ip_176 : isPtrT Try.prog 176 = false := by kernel_rfl
theorem ip_177 : isPtrT Try.prog 177 = false := by kernel_rfl
theorem ip_178 : isPtrT Try.prog 178 = true := by kernel_rfl
theorem ip_179 : isPtrT Try.prog 179 = false := by kernel_rfl
theorem ip_180 : isPtrT Try.prog 180 = false := by kernel_rfl
theorem ip_182 : isPtrT Try.prog 182 = false := by kernel_rfl
theorem ip_183 : isPtrT Try.prog 183 = false := by kernel_rfl
theorem ip_184 : isPtrT Try.prog 184 = false := by kernel_rfl
theorem ip_185 : isPtrT Try.prog 185 = false := by kernel_rfl
theorem ip_186 : isPtrT Try.prog 186 = false := by kernel_rfl
theorem ip_187 : isPtrT Try.prog 187 = false := by kernel_rfl
theorem ip_188 : isPtrT Try.prog 188 = false := by kernel_rfl
theorem ip_189 : isPtrT Try.prog 189 = false := by kernel_rfl
theorem ip_190 : isPtrT Try.prog 190 = false := by kernel_rfl
theorem ip_191 : isPtrT Try.prog 191 = false := by kernel_rfl
theorem ip_192 : isPtrT Try.prog 192 = false := by kernel_rfl
theorem ip_193 : isPtrT Try.prog 193 = false := by kernel_rfl
theorem ip_194 : isPtrT Try.prog 194 = false := by kernel_rfl
theorem ip_195 : isPtrT Try.prog 195 = false := by kernel_rfl
theorem ip_196 : isPtrT Try.prog 196 = false := by kernel_rfl
theorem ip_197 : isPtrT Try.prog 197 = false := by kernel_rfl
theorem ip_198 : isPtrT Try.prog 198 = false := by kernel_rfl
theorem ip_199 : isPtrT Try.prog 199 = false := by kernel_rfl
theorem ip_200 : isPtrT Try.prog 200 = false := by kernel_rfl
theorem ip_201 : isPtrT Try.prog 201 = false := by kernel_rfl
theorem ip_202 : isPtrT Try.prog 202 = false := by kernel_rfl
theorem ip_203 : isPtrT Try.prog 203 = false := by kernel_rfl
theorem ip_204 : isPtrT Try.prog 204 = false := by kernel_rfl
theorem ip_205 : isPtrT Try.prog 205 = false := by kernel_rfl
theorem ip_206 : isPtrT Try.prog 206 = false := by kernel_rfl
theorem ip_207 : isPtrT Try.prog 207 = false := by kernel_rfl
theorem ip_208 : isPtrT Try.prog 208 = false := by kernel_rfl
theorem ip_209 : isPtrT Try.prog 209 = false := by kernel_rfl
theorem ip_210 : isPtrT Try.prog 210 = false := by kernel_rfl
theorem ip_211 : isPtrT Try.prog 211 = false := by kernel_rfl
theorem ip_212 : isPtrT Try.prog 212 = false := by kernel_rfl
theorem ip_213 : isPtrT Try.prog 213 = false := by kernel_rfl
theorem ip_214 : isPtrT Try.prog 214 = false := by kernel_rfl
theorem ip_215 : isPtrT Try.prog 215 = false := by kernel_rfl
theorem ip_216 : isPtrT Try.prog 216 = false := by kernel_rfl
theorem ip_217 : isPtrT Try.prog 217 = false := by kernel_rfl
theorem ip_218 : isPtrT Try.prog 218 = false := by kernel_rfl
theorem ip_219 : isPtrT Try.prog 219 = false := by kernel_rfl
theorem ip_220 : isPtrT Try.prog 220 = false := by kernel_rfl
theorem ip_221 : isPtrT Try.prog 221 = true := by kernel_rfl
theorem ip_222 : isPtrT Try.prog 222 = false := by kernel_rfl
theorem ip_223 : isPtrT Try.prog 223 = true := by kernel_rfl
theorem ip_224 : isPtrT Try.prog 224 = false := by kernel_rfl
theorem ip_225 : isPtrT Try.prog 225 = false := by kernel_rfl
theorem ip_227 : isPtrT Try.prog 227 = false := by kernel_rfl
theorem ip_228 : isPtrT Try.prog 228 = false := by kernel_rfl
theorem ip_230 : isPtrT Try.prog 230 = false := by kernel_rfl
theorem ip_231 : isPtrT Try.prog 231 = false := by kernel_rfl
theorem ip_232 : isPtrT Try.prog 232 = false := by kernel_rfl
theorem ip_233 : isPtrT Try.prog 233 = false := by kernel_rfl
theorem ip_234 : isPtrT Try.prog 234 = true := by kernel_rfl
theorem ip_235 : isPtrT Try.prog 235 = false := by kernel_rfl
theorem ip_236 : isPtrT Try.prog 236 = false := by kernel_rfl
theorem ip_238 : isPtrT Try.prog 238 = false := by kernel_rfl
theorem ip_239 : isPtrT Try.prog 239 = false := by kernel_rfl
attribute [go_sem] ok_2 cs_2 rd_2 za_2 un_2 ok_3 cs_3 rd_3 za_3 un_3 ok_4 cs_4 rd_4 za_4 un_4 ok_5 cs_5 rd_5 za_5 un_5 ok_12 cs_12 rd_12 za_12 un_12 ok_19 cs_19 rd_19 za_19 fo_19_0 pt_19_0 pl_19 ok_21 cs_21 rd_21 za_21 un_21 ok_22 cs_22 rd_22 za_22 es_22 eb_22 sl_22 el_22 zl_22 pt_22 cst_22 ok_23 cs_23 rd_23 za_23 es_23 eb_23 sl_23 el_23 zl_23 pt_23 cst_23 ok_25 cs_25 rd_25 za_25 fo_25_0 pt_25_0 fo_25_1 pt_25_1 pl_25 ok_28 cs_28 rd_28 za_28 es_28 eb_28 sl_28 el_28 zl_28 pt_28 cst_28 ok_29 cs_29 rd_29 za_29 un_29 ok_36 cs_36 rd_36 za_36 es_36 eb_36 sl_36 el_36 zl_36 pt_36 cst_36 ok_41 cs_41 rd_41 za_41 fo_41_0 pt_41_0 fo_41_1 pt_41_1 pl_41 ok_43 cs_43 rd_43 za_43 fo_43_0 pt_43_0 fo_43_1 pt_43_1 fo_43_2 pt_43_2 pl_43 ok_47 cs_47 rd_47 za_47 es_47 eb_47 sl_47 el_47 zl_47 pt_47 cst_47 ok_48 cs_48 rd_48 za_48 es_48 eb_48 sl_48 el_48 zl_48 pt_48 cst_48 ok_50 cs_50 rd_50 za_50 fo_50_0 pt_50_0 fo_50_1 pt_50_1 pl_50 ok_62 cs_62 rd_62 za_62 fo_62_0 pt_62_0 fo_62_1 pt_62_1 fo_62_2 pt_62_2 fo_62_3 pt_62_3 pl_62 ok_63 cs_63 rd_63 za_63 es_63 eb_63 sl_63 el_63 zl_63 pt_63 cst_63 ok_64 cs_64 rd_64 za_64 es_64 eb_64 sl_64 el_64 zl_64 pt_64 cst_64 ok_65 cs_65 rd_65 za_65 es_65 eb_65 sl_65 el_65 zl_65 pt_65 cst_65 ok_67 cs_67 rd_67 za_67 fo_67_0 pt_67_0 fo_67_1 pt_67_1 fo_67_2 pt_67_2 fo_67_3 pt_67_3 pl_67 ok_69 cs_69 rd_69 za_69 fo_69_0 pt_69_0 fo_69_1 pt_69_1 fo_69_2 pt_69_2 fo_69_3 pt_69_3 pl_69 ok_76 cs_76 rd_76 za_76 es_76 eb_76 sl_76 el_76 zl_76 pt_76 cst_76 ok_79 cs_79 rd_79 za_79 un_79 ok_86 cs_86 rd_86 za_86 fo_86_0 pt_86_0 fo_86_1 pt_86_1 pl_86 ok_92 cs_92 rd_92 za_92 fo_92_0 pt_92_0 fo_92_1 pt_92_1 pl_92 ok_105 cs_105 rd_105 za_105 fo_105_0 pt_105_0 fo_105_1 pt_105_1 fo_105_2 pt_105_2 pl_105 is_105 ok_107 cs_107 rd_107 za_107 es_107 eb_107 sl_107 el_107 zl_107 pt_107 cst_107 ok_108 cs_108 rd_108 za_108 ok_110 cs_110 rd_110 za_110 fo_110_0 pt_110_0 fo_110_1 pt_110_1 fo_110_2 pt_110_2 pl_110 ok_112 cs_112 rd_112 za_112 ok_114 cs_114 rd_114 za_114 fo_114_0 pt_114_0 fo_114_1 pt_114_1 fo_114_2 pt_114_2 pl_114 ok_115 cs_115 rd_115 za_115 es_115 eb_115 sl_115 el_115 zl_115 pt_115 cst_115 ok_121 cs_121 rd_121 za_121 ok_123 cs_123 rd_123 za_123 fo_123_0 pt_123_0 fo_123_1 pt_123_1 pl_123 ok_127 cs_127 rd_127 za_127 un_127 ok_139 cs_139 rd_139 za_139 ok_141 cs_141 rd_141 za_141 fo_141_0 pt_141_0 fo_141_1 pt_141_1 fo_141_2 pt_141_2 fo_141_3 pt_141_3 fo_141_4 pt_141_4 pl_141 ok_154 cs_154 rd_154 za_154 fo_154_0 pt_154_0 fo_154_1 pt_154_1 pl_154 is_154 ok_156 cs_156 rd_156 za_156 fo_156_0 pt_156_0 fo_156_1 pt_156_1 fo_156_2 pt_156_2 pl_156 ok_158 cs_158 rd_158 za_158 fo_158_0 pt_158_0 fo_158_1 pt_158_1 fo_158_2 pt_158_2 pl_158 ok_168 cs_168 rd_168 za_168 ok_170 cs_170 rd_170 za_170 fo_170_0 pt_170_0 fo_170_1 pt_170_1 fo_170_2 pt_170_2 pl_170 ok_172 cs_172 rd_172 za_172 ok_174 cs_174 rd_174 za_174 fo_174_0 pt_174_0 fo_174_1 pt_174_1 pl_174 is_174 ok_178 cs_178 rd_178 za_178 ok_182 cs_182 rd_182 fo_182_0 pt_182_0 fo_182_1 pt_182_1 fo_182_2 pt_182_2 fo_182_3 pt_182_3 fo_182_4 pt_182_4 pl_182 ok_197 cs_197 rd_197 za_197 un_197 ok_202 cs_202 rd_202 za_202 un_202 ok_210 cs_210 rd_210 za_210 un_210 ok_212 cs_212 rd_212 za_212 un_212 ok_221 cs_221 rd_221 za_221 ok_234 cs_234 rd_234 za_234 ip_0 ip_1 ip_2 ip_3 ip_4 ip_5 ip_6 ip_8 ip_9 ip_10 ip_11 ip_12 ip_14 ip_15 ip_16 ip_17 ip_19 ip_20 ip_21 ip_22 ip_23 ip_25 ip_26 ip_27 ip_28 ip_29 ip_30 ip_31 ip_32 ip_33 ip_34 ip_35 ip_36 ip_37 ip_38 ip_39 ip_41 ip_43 ip_44 ip_45 ip_46 ip_47 ip_48 ip_50 ip_51 ip_52 ip_53 ip_54 ip_55 ip_56 ip_57 ip_58 ip_59 ip_60 ip_62 ip_63 ip_64 ip_65 ip_67 ip_69 ip_70 ip_71 ip_72 ip_73 ip_74 ip_75 ip_76 ip_77 ip_78 ip_79 ip_80 ip_81 ip_82 ip_83 ip_84 ip_86 ip_87 ip_88 ip_89 ip_90 ip_92 ip_93 ip_94 ip_95 ip_96 ip_97 ip_98 ip_99 ip_100 ip_101 ip_102 ip_103 ip_105 ip_106 ip_107 ip_108 ip_110 ip_111 ip_112 ip_114 ip_115 ip_116 ip_117 ip_118 ip_119 ip_120 ip_121 ip_123 ip_124 ip_125 ip_126 ip_127 ip_128 ip_129 ip_130 ip_131 ip_132 ip_133 ip_134 ip_135 ip_136 ip_137 ip_138 ip_139 ip_141 ip_142 ip_143 ip_144 ip_145 ip_146 ip_147 ip_148 ip_149 ip_150 ip_151 ip_152 ip_154 ip_156 ip_158 ip_159 ip_160 ip_161 ip_162 ip_163 ip_164 ip_165 ip_166 ip_167 ip_168 ip_170 ip_171 ip_172 ip_174 ip_175 ip_176 ip_177 ip_178 ip_179 ip_180 ip_182 ip_183 ip_184 ip_185 ip_186 ip_187 ip_188 ip_189 ip_190 ip_191 ip_192 ip_193 ip_194 ip_195 ip_196 ip_197 ip_198 ip_199 ip_200 ip_201 ip_202 ip_203 ip_204 ip_205 ip_206 ip_207 ip_208 ip_209 ip_210 ip_211 ip_212 ip_213 ip_214 ip_215 ip_216 ip_217 ip_218 ip_219 ip_220 ip_221 ip_222 ip_223 ip_224 ip_225 ip_227 ip_228 ip_230 ip_231 ip_232 ip_233 ip_234 ip_235 ip_236 ip_238 ip_239

theorem conT {X : Hints} {f : FuncId} {fn : Func} {c : Code} {rs : List ResultVar} {args : List AV} {r : AV} (hf : Try.prog.funcs[f]? = some fn) (hname : (fn.name == "runtime.NumGoroutine") = false) (hb : fn.body = some c)
    (hrs : fn.results.toList = rs) (hN : (dstOK fn.ntmps c && draws (drawOK Try.prog) X c && decide (args.length ≤ fn.ntmps)) = true) (h : acode Try.prog X c (retQ Try.prog rs r) (s0 args)) : Con Try.prog f args 0 r :=
  con_of (drawOK_ok (by kernel_rfl)) hf hname hb hrs hN h
theorem econT {X : Hints} {f : FuncId} {fn : Func} {c : Code} {rs : List ResultVar} {args pre pre' : List AV} {x x' r : AV} (hf : Try.prog.funcs[f]? = some fn) (hname : (fn.name == "runtime.NumGoroutine") = false) (hb : fn.body = some c)
    (hrs : fn.results.toList = rs) (hN : (dstOK fn.ntmps c && draws (drawOK Try.prog) X c && decide (args.length + 1 ≤ fn.ntmps)) = true) (h : acode Try.prog X c (retE Try.prog rs r pre' x') (s1 args pre x)) : ECon Try.prog f args pre x r pre' x' :=
  econ_of (drawOK_ok (by kernel_rfl)) hf hname hb hrs hN h

end Go.Sy

