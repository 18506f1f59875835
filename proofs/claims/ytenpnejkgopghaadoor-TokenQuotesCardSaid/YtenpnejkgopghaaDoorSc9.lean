/- Proved: ways through functions, one by one; printed by a program of mine. Conditions: each stands at its theorem. -/
import Derived.Test.YtenpnejkgopghaaDoorQuote
import Derived.Test.YtenpnejkgopghaaDoorQuoM
set_option linter.unusedVariables false
set_option linter.unusedSectionVars false
set_option linter.unusedSimpArgs false
set_option maxRecDepth 100000
namespace Go.Proofs.YtenpnejkgopghaaDoor.Tok
open Go Go.RowKit Go.Proofs.YtenpnejkgopghaaDoor.AK Go.Proofs.YtenpnejkgopghaaDoor.Form Go.Proofs.YtenpnejkgopghaaDoor.ParseC
variable [Gnd]
abbrev tqA_V (B b cc : Nat) (s : ByteArray) : List Value := [.string (s), .slice (some ⟨b, 0, none⟩) (tok1 1 s).length cc, .int .i64 (((tok1 1 s).length : Nat) : Int), .pointer (some ⟨b, (0 * 6), none⟩), .pointer (some ⟨b, ((0 * 6) + 1), none⟩), .pointer (some ⟨b, ((0 * 6) + 5), none⟩)]
abbrev tqA_M (B b cc : Nat) (s : ByteArray) : List (MSt × Nat) := [(trow (.st (.slice (some ⟨b, 0, none⟩) (tok1 1 s).length cc)) (tok1 1 s), 0)]
theorem tqA {B b cc : Nat} {s : ByteArray} (hgn : GndOk) (hs : s.size ≤ 200) (hpl : plainB s = true) :
    (((((tok1 1 s).length : Nat) : Int) = (1 : Int)) → (((s == s) = true) → Goes Tryd.prog 92 B (tlC (tlC (tlC (tlC (codeOf Tryd.f9))))) (trow (.st (.slice (some ⟨b, 0, none⟩) (tok1 1 s).length cc)) (tok1 1 s)) (frO 92 [(0, .string (s)), (3, .slice (some ⟨b, 0, none⟩) (tok1 1 s).length cc), (5, .int .i64 0)]) fun e S1 o1 => e = .ret ∧ S1 = trow (.st (.slice (some ⟨b, 0, none⟩) (tok1 1 s).length cc)) (tok1 1 s) ∧ o1 = (frO 92 [(2, .bool true)])) ∧
    (¬ ((s == s) = true) → Goes Tryd.prog 92 B (tlC (tlC (tlC (tlC (codeOf Tryd.f9))))) (trow (.st (.slice (some ⟨b, 0, none⟩) (tok1 1 s).length cc)) (tok1 1 s)) (frO 92 [(0, .string (s)), (3, .slice (some ⟨b, 0, none⟩) (tok1 1 s).length cc), (5, .int .i64 0)]) fun e S1 o1 => e = .ret ∧ S1 = trow (.st (.slice (some ⟨b, 0, none⟩) (tok1 1 s).length cc)) (tok1 1 s) ∧ o1 = (frO 92 [(2, .bool false)]))) ∧
    (¬ ((((tok1 1 s).length : Nat) : Int) = (1 : Int)) → Goes Tryd.prog 92 B (tlC (tlC (tlC (tlC (codeOf Tryd.f9))))) (trow (.st (.slice (some ⟨b, 0, none⟩) (tok1 1 s).length cc)) (tok1 1 s)) (frO 92 [(0, .string (s)), (3, .slice (some ⟨b, 0, none⟩) (tok1 1 s).length cc), (5, .int .i64 0)]) fun e S1 o1 => e = .ret ∧ S1 = trow (.st (.slice (some ⟨b, 0, none⟩) (tok1 1 s).length cc)) (tok1 1 s) ∧ o1 = (frO 92 [(2, .bool false)])) := by
  letI := memEnv (tqA_V B b cc s) B (tqA_M B b cc s)
  have hV : (tqA_V B b cc s).all rawOne = true := (oc rfl (oc rfl (oc rfl (oc rfl (oc rfl (oc rfl rfl))))))
  have f0 := tok1_len 1 s
  have r0 : RuleOk Tryd.prog ⟨.len 24, [.sx 1 1], none, none, .sx 1 2⟩ := rule_lenS Tryd.underlying24 (mm hV 1) (mm hV 2)
  refine ⟨fun h0 => ?_, fun h0 => ?_⟩
  ·
   have r1 : RuleOk Tryd.prog ⟨.bin .eql 3, [.sx 1 2, .int .i64 1], none, none, .bool true⟩ := rule_cmp _ (mm hV 2) (Is.int _ _) (cmp_eqlT (by omega))
   have r2 : RuleOk Tryd.prog ⟨.idxA 24, [.sx 1 1, .int .i64 0], none, none, .sx 1 3⟩ := rule_idxA (sz := 6) (j := 0) Tryd.underlying24 (by kernel_rfl) (mm hV 1) (Is.int _ _) (by first | omega | (simp; done) | (simp; omega)) rfl (mm hV 3)
   have r3 : RuleOk Tryd.prog ⟨.fldA 33 0, [.sx 1 3], none, none, .sx 1 3⟩ := rule_fld (d := 0) 0 (by kernel_rfl) (mm hV 3) rfl (mm hV 3)
   have r4 : RuleOk Tryd.prog ⟨.load 3, [.sx 1 3], some 0, none, .int .i64 1⟩ := mldr (j := 0) (by kernel_rfl) rfl rfl (tok_at0 (by first | omega | (simp; done) | (simp; omega))) (mm hV 3) (Is.int _ _)
   have r5 : RuleOk Tryd.prog ⟨.fldA 33 1, [.sx 1 3], none, none, .sx 1 4⟩ := rule_fld (d := 1) 1 (by kernel_rfl) (mm hV 3) rfl (mm hV 4)
   have r6 : RuleOk Tryd.prog ⟨.load 9, [.sx 1 4], some 0, none, .sx 1 0⟩ := mldr (j := 0) (by kernel_rfl) rfl rfl (tok_at1 (by first | omega | (simp; done) | (simp; omega))) (mm hV 4) (mm hV 0)
   refine ⟨fun h1 => ?_, fun h1 => ?_⟩
   ·
    have r7 : RuleOk Tryd.prog ⟨.bin .eql 9, [.sx 1 0, .sx 1 0], none, none, .bool true⟩ := rule_strcmp _ (mm hV 0) (mm hV 0) (.inl ⟨rfl, by simp_all⟩)
    have r8 : RuleOk Tryd.prog ⟨.fldA 33 5, [.sx 1 3], none, none, .sx 1 5⟩ := rule_fld (d := 5) 5 (by kernel_rfl) (mm hV 3) rfl (mm hV 5)
    have r9 : RuleOk Tryd.prog ⟨.load 3, [.sx 1 5], some 0, none, .int .i64 0⟩ := mldr (j := 0) (by kernel_rfl) rfl rfl (tok_at5 (by first | omega | (simp; done) | (simp; omega))) (mm hV 5) (Is.int _ _)
    have c0 : CRuleOk Tryd.prog ⟨18, [.sx 1 0], some 0, none, .bool true⟩ := gnd_rule (us := [.string (s)]) rfl (enters Tryd.func18 rfl) (.cons (mm hV 0) .nil) (Is.bool _) (fun w hw => by have h := plain_gnd hgn w (fun x o q => ⟨(Array.getElem?_eq_some_iff.1 (hw x o q)).1, hw x o q⟩) (s := s) (by omega); rwa [hpl] at h)
    have c1 : CRuleOk Tryd.prog ⟨11, [], none, none, .bool true⟩ := AK.fn_rule (us := []) (enters Tryd.func11 rfl) .nil (Is.bool _) (fun w => awake_calls w)
    exact (goes_run (vals := (tqA_V B b cc s)) (L := (tqA_M B b cc s)) (fs := [18, 11]) (fr := frA 92 [(0, .sx 1 0), (3, .sx 1 1), (5, .int .i64 0)]) (fr1 := frA 92 [(2, .bool true)]) (o0 := (frO 92 [(0, .string (s)), (3, .slice (some ⟨b, 0, none⟩) (tok1 1 s).length cc), (5, .int .i64 0)])) (o1 := frD 92 [(2, .st (.bool true))]) (e := .ret) (k := 0) (rl_c r0 (rl_c r1 (rl_c r2 (rl_c r3 (rl_c r4 (rl_c r5 (rl_c r6 (rl_c r7 (rl_c r8 (rl_c r9 rl_n)))))))))) (cl_c c0 (cl_c c1 cl_n)) rfl (by decide) (isO_l (.cons (mm hV 0) (.cons (mm hV 1) (.cons (Is.int _ _) .nil)))) (isD_l (.cons (Is.bool _) .nil)) (by kernel_rfl) rfl).mono (by rintro e S1 o1 ⟨rfl, vs, hl, rfl, rfl⟩; obtain ⟨rfl⟩ := len_0 hl; exact ⟨rfl, rfl, rfl⟩)
   ·
    have r7 : RuleOk Tryd.prog ⟨.bin .eql 9, [.sx 1 0, .sx 1 0], none, none, .bool false⟩ := rule_strcmp _ (mm hV 0) (mm hV 0) (.inl ⟨rfl, by simp_all⟩)
    exact (goes_run (vals := (tqA_V B b cc s)) (L := (tqA_M B b cc s)) (fs := []) (fr := frA 92 [(0, .sx 1 0), (3, .sx 1 1), (5, .int .i64 0)]) (fr1 := frA 92 [(2, .bool false)]) (o0 := (frO 92 [(0, .string (s)), (3, .slice (some ⟨b, 0, none⟩) (tok1 1 s).length cc), (5, .int .i64 0)])) (o1 := frD 92 [(2, .st (.bool false))]) (e := .ret) (k := 0) (rl_c r0 (rl_c r1 (rl_c r2 (rl_c r3 (rl_c r4 (rl_c r5 (rl_c r6 (rl_c r7 rl_n)))))))) cl_n rfl (by decide) (isO_l (.cons (mm hV 0) (.cons (mm hV 1) (.cons (Is.int _ _) .nil)))) (isD_l (.cons (Is.bool _) .nil)) (by kernel_rfl) rfl).mono (by rintro e S1 o1 ⟨rfl, vs, hl, rfl, rfl⟩; obtain ⟨rfl⟩ := len_0 hl; exact ⟨rfl, rfl, rfl⟩)
  ·
   have r1 : RuleOk Tryd.prog ⟨.bin .eql 3, [.sx 1 2, .int .i64 1], none, none, .bool false⟩ := rule_cmp _ (mm hV 2) (Is.int _ _) (cmp_eqlF (by omega))
   exact (goes_run (vals := (tqA_V B b cc s)) (L := (tqA_M B b cc s)) (fs := []) (fr := frA 92 [(0, .sx 1 0), (3, .sx 1 1), (5, .int .i64 0)]) (fr1 := frA 92 [(2, .bool false)]) (o0 := (frO 92 [(0, .string (s)), (3, .slice (some ⟨b, 0, none⟩) (tok1 1 s).length cc), (5, .int .i64 0)])) (o1 := frD 92 [(2, .st (.bool false))]) (e := .ret) (k := 0) (rl_c r0 (rl_c r1 rl_n)) cl_n rfl (by decide) (isO_l (.cons (mm hV 0) (.cons (mm hV 1) (.cons (Is.int _ _) .nil)))) (isD_l (.cons (Is.bool _) .nil)) (by kernel_rfl) rfl).mono (by rintro e S1 o1 ⟨rfl, vs, hl, rfl, rfl⟩; obtain ⟨rfl⟩ := len_0 hl; exact ⟨rfl, rfl, rfl⟩)
abbrev tqQ_V (B b cc : Nat) (s : ByteArray) : List Value := [.string (s), .slice (some ⟨b, 0, none⟩) (tok1 2 s).length cc, .int .i64 (((tok1 2 s).length : Nat) : Int), .pointer (some ⟨b, (0 * 6), none⟩), .pointer (some ⟨b, ((0 * 6) + 1), none⟩), .pointer (some ⟨b, ((0 * 6) + 5), none⟩)]
abbrev tqQ_M (B b cc : Nat) (s : ByteArray) : List (MSt × Nat) := [(trow (.st (.slice (some ⟨b, 0, none⟩) (tok1 2 s).length cc)) (tok1 2 s), 0)]
theorem tqQ {B b cc : Nat} {s : ByteArray} (hgn : GndOk) (hs : s.size ≤ 200) (hpl : plainB s = false) :
    (((((tok1 2 s).length : Nat) : Int) = (1 : Int)) → (((s == s) = true) → Goes Tryd.prog 92 B (tlC (tlC (tlC (tlC (codeOf Tryd.f9))))) (trow (.st (.slice (some ⟨b, 0, none⟩) (tok1 2 s).length cc)) (tok1 2 s)) (frO 92 [(0, .string (s)), (3, .slice (some ⟨b, 0, none⟩) (tok1 2 s).length cc), (5, .int .i64 0)]) fun e S1 o1 => e = .ret ∧ S1 = trow (.st (.slice (some ⟨b, 0, none⟩) (tok1 2 s).length cc)) (tok1 2 s) ∧ o1 = (frO 92 [(2, .bool true)])) ∧
    (¬ ((s == s) = true) → Goes Tryd.prog 92 B (tlC (tlC (tlC (tlC (codeOf Tryd.f9))))) (trow (.st (.slice (some ⟨b, 0, none⟩) (tok1 2 s).length cc)) (tok1 2 s)) (frO 92 [(0, .string (s)), (3, .slice (some ⟨b, 0, none⟩) (tok1 2 s).length cc), (5, .int .i64 0)]) fun e S1 o1 => e = .ret ∧ S1 = trow (.st (.slice (some ⟨b, 0, none⟩) (tok1 2 s).length cc)) (tok1 2 s) ∧ o1 = (frO 92 [(2, .bool false)]))) ∧
    (¬ ((((tok1 2 s).length : Nat) : Int) = (1 : Int)) → Goes Tryd.prog 92 B (tlC (tlC (tlC (tlC (codeOf Tryd.f9))))) (trow (.st (.slice (some ⟨b, 0, none⟩) (tok1 2 s).length cc)) (tok1 2 s)) (frO 92 [(0, .string (s)), (3, .slice (some ⟨b, 0, none⟩) (tok1 2 s).length cc), (5, .int .i64 0)]) fun e S1 o1 => e = .ret ∧ S1 = trow (.st (.slice (some ⟨b, 0, none⟩) (tok1 2 s).length cc)) (tok1 2 s) ∧ o1 = (frO 92 [(2, .bool false)])) := by
  letI := memEnv (tqQ_V B b cc s) B (tqQ_M B b cc s)
  have hV : (tqQ_V B b cc s).all rawOne = true := (oc rfl (oc rfl (oc rfl (oc rfl (oc rfl (oc rfl rfl))))))
  have f0 := tok1_len 2 s
  have r0 : RuleOk Tryd.prog ⟨.len 24, [.sx 1 1], none, none, .sx 1 2⟩ := rule_lenS Tryd.underlying24 (mm hV 1) (mm hV 2)
  refine ⟨fun h0 => ?_, fun h0 => ?_⟩
  ·
   have r1 : RuleOk Tryd.prog ⟨.bin .eql 3, [.sx 1 2, .int .i64 1], none, none, .bool true⟩ := rule_cmp _ (mm hV 2) (Is.int _ _) (cmp_eqlT (by omega))
   have r2 : RuleOk Tryd.prog ⟨.idxA 24, [.sx 1 1, .int .i64 0], none, none, .sx 1 3⟩ := rule_idxA (sz := 6) (j := 0) Tryd.underlying24 (by kernel_rfl) (mm hV 1) (Is.int _ _) (by first | omega | (simp; done) | (simp; omega)) rfl (mm hV 3)
   have r3 : RuleOk Tryd.prog ⟨.fldA 33 0, [.sx 1 3], none, none, .sx 1 3⟩ := rule_fld (d := 0) 0 (by kernel_rfl) (mm hV 3) rfl (mm hV 3)
   have r4 : RuleOk Tryd.prog ⟨.load 3, [.sx 1 3], some 0, none, .int .i64 2⟩ := mldr (j := 0) (by kernel_rfl) rfl rfl (tok_at0 (by first | omega | (simp; done) | (simp; omega))) (mm hV 3) (Is.int _ _)
   have r5 : RuleOk Tryd.prog ⟨.fldA 33 1, [.sx 1 3], none, none, .sx 1 4⟩ := rule_fld (d := 1) 1 (by kernel_rfl) (mm hV 3) rfl (mm hV 4)
   have r6 : RuleOk Tryd.prog ⟨.load 9, [.sx 1 4], some 0, none, .sx 1 0⟩ := mldr (j := 0) (by kernel_rfl) rfl rfl (tok_at1 (by first | omega | (simp; done) | (simp; omega))) (mm hV 4) (mm hV 0)
   refine ⟨fun h1 => ?_, fun h1 => ?_⟩
   ·
    have r7 : RuleOk Tryd.prog ⟨.bin .eql 9, [.sx 1 0, .sx 1 0], none, none, .bool true⟩ := rule_strcmp _ (mm hV 0) (mm hV 0) (.inl ⟨rfl, by simp_all⟩)
    have r8 : RuleOk Tryd.prog ⟨.fldA 33 5, [.sx 1 3], none, none, .sx 1 5⟩ := rule_fld (d := 5) 5 (by kernel_rfl) (mm hV 3) rfl (mm hV 5)
    have r9 : RuleOk Tryd.prog ⟨.load 3, [.sx 1 5], some 0, none, .int .i64 0⟩ := mldr (j := 0) (by kernel_rfl) rfl rfl (tok_at5 (by first | omega | (simp; done) | (simp; omega))) (mm hV 5) (Is.int _ _)
    have c0 : CRuleOk Tryd.prog ⟨18, [.sx 1 0], some 0, none, .bool false⟩ := gnd_rule (us := [.string (s)]) rfl (enters Tryd.func18 rfl) (.cons (mm hV 0) .nil) (Is.bool _) (fun w hw => by have h := plain_gnd hgn w (fun x o q => ⟨(Array.getElem?_eq_some_iff.1 (hw x o q)).1, hw x o q⟩) (s := s) (by omega); rwa [hpl] at h)
    have c1 : CRuleOk Tryd.prog ⟨11, [], none, none, .bool true⟩ := AK.fn_rule (us := []) (enters Tryd.func11 rfl) .nil (Is.bool _) (fun w => awake_calls w)
    exact (goes_run (vals := (tqQ_V B b cc s)) (L := (tqQ_M B b cc s)) (fs := [18, 11]) (fr := frA 92 [(0, .sx 1 0), (3, .sx 1 1), (5, .int .i64 0)]) (fr1 := frA 92 [(2, .bool true)]) (o0 := (frO 92 [(0, .string (s)), (3, .slice (some ⟨b, 0, none⟩) (tok1 2 s).length cc), (5, .int .i64 0)])) (o1 := frD 92 [(2, .st (.bool true))]) (e := .ret) (k := 0) (rl_c r0 (rl_c r1 (rl_c r2 (rl_c r3 (rl_c r4 (rl_c r5 (rl_c r6 (rl_c r7 (rl_c r8 (rl_c r9 rl_n)))))))))) (cl_c c0 (cl_c c1 cl_n)) rfl (by decide) (isO_l (.cons (mm hV 0) (.cons (mm hV 1) (.cons (Is.int _ _) .nil)))) (isD_l (.cons (Is.bool _) .nil)) (by kernel_rfl) rfl).mono (by rintro e S1 o1 ⟨rfl, vs, hl, rfl, rfl⟩; obtain ⟨rfl⟩ := len_0 hl; exact ⟨rfl, rfl, rfl⟩)
   ·
    have r7 : RuleOk Tryd.prog ⟨.bin .eql 9, [.sx 1 0, .sx 1 0], none, none, .bool false⟩ := rule_strcmp _ (mm hV 0) (mm hV 0) (.inl ⟨rfl, by simp_all⟩)
    exact (goes_run (vals := (tqQ_V B b cc s)) (L := (tqQ_M B b cc s)) (fs := []) (fr := frA 92 [(0, .sx 1 0), (3, .sx 1 1), (5, .int .i64 0)]) (fr1 := frA 92 [(2, .bool false)]) (o0 := (frO 92 [(0, .string (s)), (3, .slice (some ⟨b, 0, none⟩) (tok1 2 s).length cc), (5, .int .i64 0)])) (o1 := frD 92 [(2, .st (.bool false))]) (e := .ret) (k := 0) (rl_c r0 (rl_c r1 (rl_c r2 (rl_c r3 (rl_c r4 (rl_c r5 (rl_c r6 (rl_c r7 rl_n)))))))) cl_n rfl (by decide) (isO_l (.cons (mm hV 0) (.cons (mm hV 1) (.cons (Is.int _ _) .nil)))) (isD_l (.cons (Is.bool _) .nil)) (by kernel_rfl) rfl).mono (by rintro e S1 o1 ⟨rfl, vs, hl, rfl, rfl⟩; obtain ⟨rfl⟩ := len_0 hl; exact ⟨rfl, rfl, rfl⟩)
  ·
   have r1 : RuleOk Tryd.prog ⟨.bin .eql 3, [.sx 1 2, .int .i64 1], none, none, .bool false⟩ := rule_cmp _ (mm hV 2) (Is.int _ _) (cmp_eqlF (by omega))
   exact (goes_run (vals := (tqQ_V B b cc s)) (L := (tqQ_M B b cc s)) (fs := []) (fr := frA 92 [(0, .sx 1 0), (3, .sx 1 1), (5, .int .i64 0)]) (fr1 := frA 92 [(2, .bool false)]) (o0 := (frO 92 [(0, .string (s)), (3, .slice (some ⟨b, 0, none⟩) (tok1 2 s).length cc), (5, .int .i64 0)])) (o1 := frD 92 [(2, .st (.bool false))]) (e := .ret) (k := 0) (rl_c r0 (rl_c r1 rl_n)) cl_n rfl (by decide) (isO_l (.cons (mm hV 0) (.cons (mm hV 1) (.cons (Is.int _ _) .nil)))) (isD_l (.cons (Is.bool _) .nil)) (by kernel_rfl) rfl).mono (by rintro e S1 o1 ⟨rfl, vs, hl, rfl, rfl⟩; obtain ⟨rfl⟩ := len_0 hl; exact ⟨rfl, rfl, rfl⟩)
end Go.Proofs.YtenpnejkgopghaaDoor.Tok
