/- The package sched, whatever happens, shown. -/
import Derived.Test.YtnhdohhhgfdhfaaQM
import Derived.Test.YtnhdohhhgfdhfaaCM
import Derived.Test.YtnhdohhhgfdhfaaPM
import Derived.KernelRfl
namespace Go.SF.C21
open Go Go.SF Go.Proofs
set_option linter.unusedVariables false
set_option linter.unusedSimpArgs false

set_option maxRecDepth 100000 in
theorem cDo_obs : callObs Φ Try.prog m3 1000 cDo.f cDo.vs cDo.o cDo.pc cDo.outs = some
  [{pc := [.app 130 (.l (.app 337 (.l (.v 5) (.l (.v 0) (.i (.v 0) (.i (.v 1) (.i (.c 0) (.i (.rem (.v 0) (.len (.v 4))) .nil))))))) (.l (.v 1000) (.i (.c 64) .nil))), .le (.len (.app 339 (.l (.v 5) (.l (.v 2) (.i (.v 0) (.i (.v 1) (.i (.c 0) .nil))))))) (.len (.v 2)), .eq (.len (.app 338 (.l (.v 5) (.l (.v 4) (.i (.v 0) (.i (.v 1) (.i (.c 0) .nil))))))) (.len (.v 4)), .eq (.len (.app 337 (.l (.v 5) (.l (.v 0) (.i (.v 0) (.i (.v 1) (.i (.c 0) (.i (.rem (.v 0) (.len (.v 4))) .nil)))))))) (.len (.v 0)), .eq (.len (.app 331 (.l (.v 5) (.i (.v 0) (.i (.v 1) (.i (.c 0) .nil)))))) (.len (.v 5)), .le (.c 0) (.rem (.v 0) (.len (.v 4))), .lt (.rem (.v 0) (.len (.v 4))) (.len (.v 0)), .app 331 (.l (.v 5) (.i (.v 0) .nil)), .or (.not (.eq (.sel (.v 5) (.v 0) 0) (.c 2))) (.and (.le (.c 0) (.sel (.v 5) (.v 0) 1)) (.lt (.sel (.v 5) (.v 0) 1) (.len (.v 4)))), .lt (.v 0) (.len (.v 5)), .le (.c 0) (.v 0), .eq (.v 1) (.c 1), .le (.c 1) (.len (.v 0)), .le (.len (.v 0)) (.c 8), .eq (.len (.v 4)) (.len (.v 0)), .le (.len (.v 5)) (.c 64), .le (.c 1) (.v 8), .le (.v 8) (.c 10000), .c true, .app 130 (.l (.v 0) (.l (.v 1) (.i (.c 64) .nil))), .app 332 (.l (.v 5) (.l (.v 0) (.l (.v 4) .nil)))], eqs := [.T (.app 332 (.l (.app 331 (.l (.v 5) (.i (.v 0) (.i (.v 1) (.i (.c 0) .nil))))) (.l (.app 337 (.l (.v 5) (.l (.v 0) (.i (.v 0) (.i (.v 1) (.i (.c 0) (.i (.rem (.v 0) (.len (.v 4))) .nil))))))) (.l (.app 338 (.l (.v 5) (.l (.v 4) (.i (.v 0) (.i (.v 1) (.i (.c 0) .nil)))))) .nil))))]}, {pc := [.not (.le (.c 0) (.rem (.v 0) (.len (.v 4)))), .lt (.v 0) (.len (.v 5)), .le (.c 0) (.v 0), .eq (.v 1) (.c 1), .le (.c 1) (.len (.v 0)), .le (.len (.v 0)) (.c 8), .eq (.len (.v 4)) (.len (.v 0)), .le (.len (.v 5)) (.c 64), .le (.c 1) (.v 8), .le (.v 8) (.c 10000), .c true, .app 130 (.l (.v 0) (.l (.v 1) (.i (.c 64) .nil))), .app 332 (.l (.v 5) (.l (.v 0) (.l (.v 4) .nil)))], eqs := [.T (.c false)]}, {pc := [.not (.lt (.rem (.v 0) (.len (.v 4))) (.len (.v 0))), .lt (.v 0) (.len (.v 5)), .le (.c 0) (.v 0), .eq (.v 1) (.c 1), .le (.c 1) (.len (.v 0)), .le (.len (.v 0)) (.c 8), .eq (.len (.v 4)) (.len (.v 0)), .le (.len (.v 5)) (.c 64), .le (.c 1) (.v 8), .le (.v 8) (.c 10000), .c true, .app 130 (.l (.v 0) (.l (.v 1) (.i (.c 64) .nil))), .app 332 (.l (.v 5) (.l (.v 0) (.l (.v 4) .nil)))], eqs := [.T (.c false)]}, {pc := [.not (.app 331 (.l (.v 5) (.i (.v 0) .nil))), .lt (.v 0) (.len (.v 5)), .le (.c 0) (.v 0), .eq (.v 1) (.c 1), .le (.c 1) (.len (.v 0)), .le (.len (.v 0)) (.c 8), .eq (.len (.v 4)) (.len (.v 0)), .le (.len (.v 5)) (.c 64), .le (.c 1) (.v 8), .le (.v 8) (.c 10000), .c true, .app 130 (.l (.v 0) (.l (.v 1) (.i (.c 64) .nil))), .app 332 (.l (.v 5) (.l (.v 0) (.l (.v 4) .nil)))], eqs := [.T (.c false)]}, {pc := [.not (.or (.not (.eq (.sel (.v 5) (.v 0) 0) (.c 2))) (.and (.le (.c 0) (.sel (.v 5) (.v 0) 1)) (.lt (.sel (.v 5) (.v 0) 1) (.len (.v 4))))), .lt (.v 0) (.len (.v 5)), .le (.c 0) (.v 0), .eq (.v 1) (.c 1), .le (.c 1) (.len (.v 0)), .le (.len (.v 0)) (.c 8), .eq (.len (.v 4)) (.len (.v 0)), .le (.len (.v 5)) (.c 64), .le (.c 1) (.v 8), .le (.v 8) (.c 10000), .c true, .app 130 (.l (.v 0) (.l (.v 1) (.i (.c 64) .nil))), .app 332 (.l (.v 5) (.l (.v 0) (.l (.v 4) .nil)))], eqs := [.T (.c false)]}, {pc := [.app 130 (.l (.app 337 (.l (.v 5) (.l (.v 0) (.i (.v 0) (.i (.v 1) (.i (.c 0) (.i (.rem (.v 0) (.len (.v 4))) .nil))))))) (.l (.v 1000) (.i (.c 64) .nil))), .le (.len (.app 339 (.l (.v 5) (.l (.v 2) (.i (.v 0) (.i (.v 1) (.i (.c 0) .nil))))))) (.len (.v 2)), .eq (.len (.app 338 (.l (.v 5) (.l (.v 4) (.i (.v 0) (.i (.v 1) (.i (.c 0) .nil))))))) (.len (.v 4)), .eq (.len (.app 337 (.l (.v 5) (.l (.v 0) (.i (.v 0) (.i (.v 1) (.i (.c 0) (.i (.rem (.v 0) (.len (.v 4))) .nil)))))))) (.len (.v 0)), .eq (.len (.app 331 (.l (.v 5) (.i (.v 0) (.i (.v 1) (.i (.c 0) .nil)))))) (.len (.v 5)), .le (.c 0) (.rem (.v 0) (.len (.v 4))), .lt (.rem (.v 0) (.len (.v 4))) (.len (.v 0)), .app 331 (.l (.v 5) (.i (.v 0) .nil)), .or (.not (.eq (.sel (.v 5) (.v 0) 0) (.c 2))) (.and (.le (.c 0) (.sel (.v 5) (.v 0) 1)) (.lt (.sel (.v 5) (.v 0) 1) (.len (.v 4)))), .lt (.v 0) (.len (.v 5)), .le (.c 0) (.v 0), .eq (.v 1) (.c 5), .not (.eq (.v 1) (.c 1)), .le (.c 1) (.len (.v 0)), .le (.len (.v 0)) (.c 8), .eq (.len (.v 4)) (.len (.v 0)), .le (.len (.v 5)) (.c 64), .le (.c 1) (.v 8), .le (.v 8) (.c 10000), .c true, .app 130 (.l (.v 0) (.l (.v 1) (.i (.c 64) .nil))), .app 332 (.l (.v 5) (.l (.v 0) (.l (.v 4) .nil)))], eqs := [.T (.app 332 (.l (.app 331 (.l (.v 5) (.i (.v 0) (.i (.v 1) (.i (.c 0) .nil))))) (.l (.app 337 (.l (.v 5) (.l (.v 0) (.i (.v 0) (.i (.v 1) (.i (.c 0) (.i (.rem (.v 0) (.len (.v 4))) .nil))))))) (.l (.app 338 (.l (.v 5) (.l (.v 4) (.i (.v 0) (.i (.v 1) (.i (.c 0) .nil)))))) .nil))))]}, {pc := [.not (.le (.c 0) (.rem (.v 0) (.len (.v 4)))), .lt (.v 0) (.len (.v 5)), .le (.c 0) (.v 0), .eq (.v 1) (.c 5), .not (.eq (.v 1) (.c 1)), .le (.c 1) (.len (.v 0)), .le (.len (.v 0)) (.c 8), .eq (.len (.v 4)) (.len (.v 0)), .le (.len (.v 5)) (.c 64), .le (.c 1) (.v 8), .le (.v 8) (.c 10000), .c true, .app 130 (.l (.v 0) (.l (.v 1) (.i (.c 64) .nil))), .app 332 (.l (.v 5) (.l (.v 0) (.l (.v 4) .nil)))], eqs := [.T (.c false)]}, {pc := [.not (.lt (.rem (.v 0) (.len (.v 4))) (.len (.v 0))), .lt (.v 0) (.len (.v 5)), .le (.c 0) (.v 0), .eq (.v 1) (.c 5), .not (.eq (.v 1) (.c 1)), .le (.c 1) (.len (.v 0)), .le (.len (.v 0)) (.c 8), .eq (.len (.v 4)) (.len (.v 0)), .le (.len (.v 5)) (.c 64), .le (.c 1) (.v 8), .le (.v 8) (.c 10000), .c true, .app 130 (.l (.v 0) (.l (.v 1) (.i (.c 64) .nil))), .app 332 (.l (.v 5) (.l (.v 0) (.l (.v 4) .nil)))], eqs := [.T (.c false)]}, {pc := [.not (.app 331 (.l (.v 5) (.i (.v 0) .nil))), .lt (.v 0) (.len (.v 5)), .le (.c 0) (.v 0), .eq (.v 1) (.c 5), .not (.eq (.v 1) (.c 1)), .le (.c 1) (.len (.v 0)), .le (.len (.v 0)) (.c 8), .eq (.len (.v 4)) (.len (.v 0)), .le (.len (.v 5)) (.c 64), .le (.c 1) (.v 8), .le (.v 8) (.c 10000), .c true, .app 130 (.l (.v 0) (.l (.v 1) (.i (.c 64) .nil))), .app 332 (.l (.v 5) (.l (.v 0) (.l (.v 4) .nil)))], eqs := [.T (.c false)]}, {pc := [.not (.or (.not (.eq (.sel (.v 5) (.v 0) 0) (.c 2))) (.and (.le (.c 0) (.sel (.v 5) (.v 0) 1)) (.lt (.sel (.v 5) (.v 0) 1) (.len (.v 4))))), .lt (.v 0) (.len (.v 5)), .le (.c 0) (.v 0), .eq (.v 1) (.c 5), .not (.eq (.v 1) (.c 1)), .le (.c 1) (.len (.v 0)), .le (.len (.v 0)) (.c 8), .eq (.len (.v 4)) (.len (.v 0)), .le (.len (.v 5)) (.c 64), .le (.c 1) (.v 8), .le (.v 8) (.c 10000), .c true, .app 130 (.l (.v 0) (.l (.v 1) (.i (.c 64) .nil))), .app 332 (.l (.v 5) (.l (.v 0) (.l (.v 4) .nil)))], eqs := [.T (.c false)]}, {pc := [.app 130 (.l (.app 337 (.l (.v 5) (.l (.v 0) (.i (.v 0) (.i (.v 1) (.i (.c 0) (.i (.rem (.v 0) (.len (.v 4))) .nil))))))) (.l (.v 1000) (.i (.c 64) .nil))), .le (.len (.app 339 (.l (.v 5) (.l (.v 2) (.i (.v 0) (.i (.v 1) (.i (.c 0) .nil))))))) (.len (.v 2)), .eq (.len (.app 338 (.l (.v 5) (.l (.v 4) (.i (.v 0) (.i (.v 1) (.i (.c 0) .nil))))))) (.len (.v 4)), .eq (.len (.app 337 (.l (.v 5) (.l (.v 0) (.i (.v 0) (.i (.v 1) (.i (.c 0) (.i (.rem (.v 0) (.len (.v 4))) .nil)))))))) (.len (.v 0)), .eq (.len (.app 331 (.l (.v 5) (.i (.v 0) (.i (.v 1) (.i (.c 0) .nil)))))) (.len (.v 5)), .le (.c 0) (.rem (.v 0) (.len (.v 4))), .lt (.rem (.v 0) (.len (.v 4))) (.len (.v 0)), .app 331 (.l (.v 5) (.i (.v 0) .nil)), .or (.not (.eq (.sel (.v 5) (.v 0) 0) (.c 2))) (.and (.le (.c 0) (.sel (.v 5) (.v 0) 1)) (.lt (.sel (.v 5) (.v 0) 1) (.len (.v 4)))), .lt (.v 0) (.len (.v 5)), .le (.c 0) (.v 0), .eq (.v 1) (.c 6), .not (.eq (.v 1) (.c 5)), .not (.eq (.v 1) (.c 1)), .le (.c 1) (.len (.v 0)), .le (.len (.v 0)) (.c 8), .eq (.len (.v 4)) (.len (.v 0)), .le (.len (.v 5)) (.c 64), .le (.c 1) (.v 8), .le (.v 8) (.c 10000), .c true, .app 130 (.l (.v 0) (.l (.v 1) (.i (.c 64) .nil))), .app 332 (.l (.v 5) (.l (.v 0) (.l (.v 4) .nil)))], eqs := [.T (.app 332 (.l (.app 331 (.l (.v 5) (.i (.v 0) (.i (.v 1) (.i (.c 0) .nil))))) (.l (.app 337 (.l (.v 5) (.l (.v 0) (.i (.v 0) (.i (.v 1) (.i (.c 0) (.i (.rem (.v 0) (.len (.v 4))) .nil))))))) (.l (.app 338 (.l (.v 5) (.l (.v 4) (.i (.v 0) (.i (.v 1) (.i (.c 0) .nil)))))) .nil))))]}, {pc := [.not (.le (.c 0) (.rem (.v 0) (.len (.v 4)))), .lt (.v 0) (.len (.v 5)), .le (.c 0) (.v 0), .eq (.v 1) (.c 6), .not (.eq (.v 1) (.c 5)), .not (.eq (.v 1) (.c 1)), .le (.c 1) (.len (.v 0)), .le (.len (.v 0)) (.c 8), .eq (.len (.v 4)) (.len (.v 0)), .le (.len (.v 5)) (.c 64), .le (.c 1) (.v 8), .le (.v 8) (.c 10000), .c true, .app 130 (.l (.v 0) (.l (.v 1) (.i (.c 64) .nil))), .app 332 (.l (.v 5) (.l (.v 0) (.l (.v 4) .nil)))], eqs := [.T (.c false)]}, {pc := [.not (.lt (.rem (.v 0) (.len (.v 4))) (.len (.v 0))), .lt (.v 0) (.len (.v 5)), .le (.c 0) (.v 0), .eq (.v 1) (.c 6), .not (.eq (.v 1) (.c 5)), .not (.eq (.v 1) (.c 1)), .le (.c 1) (.len (.v 0)), .le (.len (.v 0)) (.c 8), .eq (.len (.v 4)) (.len (.v 0)), .le (.len (.v 5)) (.c 64), .le (.c 1) (.v 8), .le (.v 8) (.c 10000), .c true, .app 130 (.l (.v 0) (.l (.v 1) (.i (.c 64) .nil))), .app 332 (.l (.v 5) (.l (.v 0) (.l (.v 4) .nil)))], eqs := [.T (.c false)]}, {pc := [.not (.app 331 (.l (.v 5) (.i (.v 0) .nil))), .lt (.v 0) (.len (.v 5)), .le (.c 0) (.v 0), .eq (.v 1) (.c 6), .not (.eq (.v 1) (.c 5)), .not (.eq (.v 1) (.c 1)), .le (.c 1) (.len (.v 0)), .le (.len (.v 0)) (.c 8), .eq (.len (.v 4)) (.len (.v 0)), .le (.len (.v 5)) (.c 64), .le (.c 1) (.v 8), .le (.v 8) (.c 10000), .c true, .app 130 (.l (.v 0) (.l (.v 1) (.i (.c 64) .nil))), .app 332 (.l (.v 5) (.l (.v 0) (.l (.v 4) .nil)))], eqs := [.T (.c false)]}, {pc := [.not (.or (.not (.eq (.sel (.v 5) (.v 0) 0) (.c 2))) (.and (.le (.c 0) (.sel (.v 5) (.v 0) 1)) (.lt (.sel (.v 5) (.v 0) 1) (.len (.v 4))))), .lt (.v 0) (.len (.v 5)), .le (.c 0) (.v 0), .eq (.v 1) (.c 6), .not (.eq (.v 1) (.c 5)), .not (.eq (.v 1) (.c 1)), .le (.c 1) (.len (.v 0)), .le (.len (.v 0)) (.c 8), .eq (.len (.v 4)) (.len (.v 0)), .le (.len (.v 5)) (.c 64), .le (.c 1) (.v 8), .le (.v 8) (.c 10000), .c true, .app 130 (.l (.v 0) (.l (.v 1) (.i (.c 64) .nil))), .app 332 (.l (.v 5) (.l (.v 0) (.l (.v 4) .nil)))], eqs := [.T (.c false)]}, {pc := [.app 130 (.l (.app 337 (.l (.v 5) (.l (.v 0) (.i (.v 0) (.i (.v 1) (.i (.c 0) (.i (.rem (.v 0) (.len (.v 4))) .nil))))))) (.l (.v 1000) (.i (.c 64) .nil))), .le (.len (.app 339 (.l (.v 5) (.l (.v 2) (.i (.v 0) (.i (.v 1) (.i (.c 0) .nil))))))) (.len (.v 2)), .eq (.len (.app 338 (.l (.v 5) (.l (.v 4) (.i (.v 0) (.i (.v 1) (.i (.c 0) .nil))))))) (.len (.v 4)), .eq (.len (.app 337 (.l (.v 5) (.l (.v 0) (.i (.v 0) (.i (.v 1) (.i (.c 0) (.i (.rem (.v 0) (.len (.v 4))) .nil)))))))) (.len (.v 0)), .eq (.len (.app 331 (.l (.v 5) (.i (.v 0) (.i (.v 1) (.i (.c 0) .nil)))))) (.len (.v 5)), .le (.c 0) (.rem (.v 0) (.len (.v 4))), .lt (.rem (.v 0) (.len (.v 4))) (.len (.v 0)), .app 331 (.l (.v 5) (.i (.v 0) .nil)), .or (.not (.eq (.sel (.v 5) (.v 0) 0) (.c 2))) (.and (.le (.c 0) (.sel (.v 5) (.v 0) 1)) (.lt (.sel (.v 5) (.v 0) 1) (.len (.v 4)))), .lt (.v 0) (.len (.v 5)), .le (.c 0) (.v 0), .eq (.v 1) (.c 7), .not (.eq (.v 1) (.c 6)), .not (.eq (.v 1) (.c 5)), .not (.eq (.v 1) (.c 1)), .le (.c 1) (.len (.v 0)), .le (.len (.v 0)) (.c 8), .eq (.len (.v 4)) (.len (.v 0)), .le (.len (.v 5)) (.c 64), .le (.c 1) (.v 8), .le (.v 8) (.c 10000), .c true, .app 130 (.l (.v 0) (.l (.v 1) (.i (.c 64) .nil))), .app 332 (.l (.v 5) (.l (.v 0) (.l (.v 4) .nil)))], eqs := [.T (.app 332 (.l (.app 331 (.l (.v 5) (.i (.v 0) (.i (.v 1) (.i (.c 0) .nil))))) (.l (.app 337 (.l (.v 5) (.l (.v 0) (.i (.v 0) (.i (.v 1) (.i (.c 0) (.i (.rem (.v 0) (.len (.v 4))) .nil))))))) (.l (.app 338 (.l (.v 5) (.l (.v 4) (.i (.v 0) (.i (.v 1) (.i (.c 0) .nil)))))) .nil))))]}, {pc := [.not (.le (.c 0) (.rem (.v 0) (.len (.v 4)))), .lt (.v 0) (.len (.v 5)), .le (.c 0) (.v 0), .eq (.v 1) (.c 7), .not (.eq (.v 1) (.c 6)), .not (.eq (.v 1) (.c 5)), .not (.eq (.v 1) (.c 1)), .le (.c 1) (.len (.v 0)), .le (.len (.v 0)) (.c 8), .eq (.len (.v 4)) (.len (.v 0)), .le (.len (.v 5)) (.c 64), .le (.c 1) (.v 8), .le (.v 8) (.c 10000), .c true, .app 130 (.l (.v 0) (.l (.v 1) (.i (.c 64) .nil))), .app 332 (.l (.v 5) (.l (.v 0) (.l (.v 4) .nil)))], eqs := [.T (.c false)]}, {pc := [.not (.lt (.rem (.v 0) (.len (.v 4))) (.len (.v 0))), .lt (.v 0) (.len (.v 5)), .le (.c 0) (.v 0), .eq (.v 1) (.c 7), .not (.eq (.v 1) (.c 6)), .not (.eq (.v 1) (.c 5)), .not (.eq (.v 1) (.c 1)), .le (.c 1) (.len (.v 0)), .le (.len (.v 0)) (.c 8), .eq (.len (.v 4)) (.len (.v 0)), .le (.len (.v 5)) (.c 64), .le (.c 1) (.v 8), .le (.v 8) (.c 10000), .c true, .app 130 (.l (.v 0) (.l (.v 1) (.i (.c 64) .nil))), .app 332 (.l (.v 5) (.l (.v 0) (.l (.v 4) .nil)))], eqs := [.T (.c false)]}, {pc := [.not (.app 331 (.l (.v 5) (.i (.v 0) .nil))), .lt (.v 0) (.len (.v 5)), .le (.c 0) (.v 0), .eq (.v 1) (.c 7), .not (.eq (.v 1) (.c 6)), .not (.eq (.v 1) (.c 5)), .not (.eq (.v 1) (.c 1)), .le (.c 1) (.len (.v 0)), .le (.len (.v 0)) (.c 8), .eq (.len (.v 4)) (.len (.v 0)), .le (.len (.v 5)) (.c 64), .le (.c 1) (.v 8), .le (.v 8) (.c 10000), .c true, .app 130 (.l (.v 0) (.l (.v 1) (.i (.c 64) .nil))), .app 332 (.l (.v 5) (.l (.v 0) (.l (.v 4) .nil)))], eqs := [.T (.c false)]}, {pc := [.not (.or (.not (.eq (.sel (.v 5) (.v 0) 0) (.c 2))) (.and (.le (.c 0) (.sel (.v 5) (.v 0) 1)) (.lt (.sel (.v 5) (.v 0) 1) (.len (.v 4))))), .lt (.v 0) (.len (.v 5)), .le (.c 0) (.v 0), .eq (.v 1) (.c 7), .not (.eq (.v 1) (.c 6)), .not (.eq (.v 1) (.c 5)), .not (.eq (.v 1) (.c 1)), .le (.c 1) (.len (.v 0)), .le (.len (.v 0)) (.c 8), .eq (.len (.v 4)) (.len (.v 0)), .le (.len (.v 5)) (.c 64), .le (.c 1) (.v 8), .le (.v 8) (.c 10000), .c true, .app 130 (.l (.v 0) (.l (.v 1) (.i (.c 64) .nil))), .app 332 (.l (.v 5) (.l (.v 0) (.l (.v 4) .nil)))], eqs := [.T (.c false)]}, {pc := [.app 130 (.l (.app 337 (.l (.v 5) (.l (.v 0) (.i (.v 0) (.i (.v 1) (.i (.c 0) (.i (.rem (.v 0) (.len (.v 4))) .nil))))))) (.l (.v 1000) (.i (.c 64) .nil))), .le (.len (.app 339 (.l (.v 5) (.l (.v 2) (.i (.v 0) (.i (.v 1) (.i (.c 0) .nil))))))) (.len (.v 2)), .eq (.len (.app 338 (.l (.v 5) (.l (.v 4) (.i (.v 0) (.i (.v 1) (.i (.c 0) .nil))))))) (.len (.v 4)), .eq (.len (.app 337 (.l (.v 5) (.l (.v 0) (.i (.v 0) (.i (.v 1) (.i (.c 0) (.i (.rem (.v 0) (.len (.v 4))) .nil)))))))) (.len (.v 0)), .eq (.len (.app 331 (.l (.v 5) (.i (.v 0) (.i (.v 1) (.i (.c 0) .nil)))))) (.len (.v 5)), .le (.c 0) (.rem (.v 0) (.len (.v 4))), .lt (.rem (.v 0) (.len (.v 4))) (.len (.v 0)), .app 331 (.l (.v 5) (.i (.v 0) .nil)), .or (.not (.eq (.sel (.v 5) (.v 0) 0) (.c 2))) (.and (.le (.c 0) (.sel (.v 5) (.v 0) 1)) (.lt (.sel (.v 5) (.v 0) 1) (.len (.v 4)))), .lt (.v 0) (.len (.v 5)), .le (.c 0) (.v 0), .eq (.v 1) (.c 8), .not (.eq (.v 1) (.c 7)), .not (.eq (.v 1) (.c 6)), .not (.eq (.v 1) (.c 5)), .not (.eq (.v 1) (.c 1)), .le (.c 1) (.len (.v 0)), .le (.len (.v 0)) (.c 8), .eq (.len (.v 4)) (.len (.v 0)), .le (.len (.v 5)) (.c 64), .le (.c 1) (.v 8), .le (.v 8) (.c 10000), .c true, .app 130 (.l (.v 0) (.l (.v 1) (.i (.c 64) .nil))), .app 332 (.l (.v 5) (.l (.v 0) (.l (.v 4) .nil)))], eqs := [.T (.app 332 (.l (.app 331 (.l (.v 5) (.i (.v 0) (.i (.v 1) (.i (.c 0) .nil))))) (.l (.app 337 (.l (.v 5) (.l (.v 0) (.i (.v 0) (.i (.v 1) (.i (.c 0) (.i (.rem (.v 0) (.len (.v 4))) .nil))))))) (.l (.app 338 (.l (.v 5) (.l (.v 4) (.i (.v 0) (.i (.v 1) (.i (.c 0) .nil)))))) .nil))))]}, {pc := [.not (.le (.c 0) (.rem (.v 0) (.len (.v 4)))), .lt (.v 0) (.len (.v 5)), .le (.c 0) (.v 0), .eq (.v 1) (.c 8), .not (.eq (.v 1) (.c 7)), .not (.eq (.v 1) (.c 6)), .not (.eq (.v 1) (.c 5)), .not (.eq (.v 1) (.c 1)), .le (.c 1) (.len (.v 0)), .le (.len (.v 0)) (.c 8), .eq (.len (.v 4)) (.len (.v 0)), .le (.len (.v 5)) (.c 64), .le (.c 1) (.v 8), .le (.v 8) (.c 10000), .c true, .app 130 (.l (.v 0) (.l (.v 1) (.i (.c 64) .nil))), .app 332 (.l (.v 5) (.l (.v 0) (.l (.v 4) .nil)))], eqs := [.T (.c false)]}, {pc := [.not (.lt (.rem (.v 0) (.len (.v 4))) (.len (.v 0))), .lt (.v 0) (.len (.v 5)), .le (.c 0) (.v 0), .eq (.v 1) (.c 8), .not (.eq (.v 1) (.c 7)), .not (.eq (.v 1) (.c 6)), .not (.eq (.v 1) (.c 5)), .not (.eq (.v 1) (.c 1)), .le (.c 1) (.len (.v 0)), .le (.len (.v 0)) (.c 8), .eq (.len (.v 4)) (.len (.v 0)), .le (.len (.v 5)) (.c 64), .le (.c 1) (.v 8), .le (.v 8) (.c 10000), .c true, .app 130 (.l (.v 0) (.l (.v 1) (.i (.c 64) .nil))), .app 332 (.l (.v 5) (.l (.v 0) (.l (.v 4) .nil)))], eqs := [.T (.c false)]}, {pc := [.not (.app 331 (.l (.v 5) (.i (.v 0) .nil))), .lt (.v 0) (.len (.v 5)), .le (.c 0) (.v 0), .eq (.v 1) (.c 8), .not (.eq (.v 1) (.c 7)), .not (.eq (.v 1) (.c 6)), .not (.eq (.v 1) (.c 5)), .not (.eq (.v 1) (.c 1)), .le (.c 1) (.len (.v 0)), .le (.len (.v 0)) (.c 8), .eq (.len (.v 4)) (.len (.v 0)), .le (.len (.v 5)) (.c 64), .le (.c 1) (.v 8), .le (.v 8) (.c 10000), .c true, .app 130 (.l (.v 0) (.l (.v 1) (.i (.c 64) .nil))), .app 332 (.l (.v 5) (.l (.v 0) (.l (.v 4) .nil)))], eqs := [.T (.c false)]}, {pc := [.not (.or (.not (.eq (.sel (.v 5) (.v 0) 0) (.c 2))) (.and (.le (.c 0) (.sel (.v 5) (.v 0) 1)) (.lt (.sel (.v 5) (.v 0) 1) (.len (.v 4))))), .lt (.v 0) (.len (.v 5)), .le (.c 0) (.v 0), .eq (.v 1) (.c 8), .not (.eq (.v 1) (.c 7)), .not (.eq (.v 1) (.c 6)), .not (.eq (.v 1) (.c 5)), .not (.eq (.v 1) (.c 1)), .le (.c 1) (.len (.v 0)), .le (.len (.v 0)) (.c 8), .eq (.len (.v 4)) (.len (.v 0)), .le (.len (.v 5)) (.c 64), .le (.c 1) (.v 8), .le (.v 8) (.c 10000), .c true, .app 130 (.l (.v 0) (.l (.v 1) (.i (.c 64) .nil))), .app 332 (.l (.v 5) (.l (.v 0) (.l (.v 4) .nil)))], eqs := [.T (.c false)]}, {pc := [.not (.eq (.v 1) (.c 8)), .not (.eq (.v 1) (.c 7)), .not (.eq (.v 1) (.c 6)), .not (.eq (.v 1) (.c 5)), .not (.eq (.v 1) (.c 1)), .le (.c 1) (.len (.v 0)), .le (.len (.v 0)) (.c 8), .eq (.len (.v 4)) (.len (.v 0)), .le (.len (.v 5)) (.c 64), .le (.c 1) (.v 8), .le (.v 8) (.c 10000), .c true, .app 130 (.l (.v 0) (.l (.v 1) (.i (.c 64) .nil))), .app 332 (.l (.v 5) (.l (.v 0) (.l (.v 4) .nil)))], eqs := [.T (.or (.or (.lt (.v 1) (.c 1)) (.lt (.c 8) (.v 1))) (.and (.le (.c 2) (.v 1)) (.le (.v 1) (.c 4))))]}] := by kernel_rfl
theorem cDo_ok : cDo.ok Φ Try.prog := by
  refine call_rule (fun ρ => m3_ok ρ) cDo_obs ?_
  simp only [and_imp, List.forall_mem_cons, List.not_mem_nil, false_implies, implies_true, and_true, Ob.ok, holds, Eqn.ok, evB_eq, evB_lt, evB_le, evB_not, evB_and, evB_or, evB_eqL, evB_app, evB_v, evB_c, ev_sel, ev_len, ev_v, ev_c, ev_add, ev_sub, ev_mul, ev_quo, ev_rem, ev_bits, ev_wrap, evL_v, evL_lit, evL_app, ev_app, evA_l, evA_i, evA_nil, std_min, std_max, std_cat, std_take, std_drop, std_row, std_set, std_rep, std_find, std_put, std_del, std_flag, std_unflag, std_clr, std_left, std_copy, std_cnt, std_catS, std_lenS, std_atS, std_subS, std_ofB, std_snd, std_rcv, ints_cons, ints_nil, ofNat_lit, negSucc_lit, decide_eq_true_eq, Bool.and_eq_true, Bool.or_eq_true, Bool.not_eq_true', Bool.and_eq_false_iff, Bool.or_eq_false_iff, decide_eq_false_iff_not, aL330, aL331, aL332, aL333, aL334, aL335, aL336, aL337, aL338, aL339, aI340, aB330, aB331, aB199, Bool.not_eq_false', Q.aB130, Q.aL112, Q.aL110, aL341, aB332, aL311, aL310, Q.aL111, Q.aI112, Q.aI111, Q.aB132, T.aI214, T.aI215, std_rowT, std_row]
  repeat' apply And.intro
  all_goals intro ρ hR
  all_goals intros
  all_goals first
    | (have hI : invS (ρ.l 5) (ρ.l 0) (ρ.l 4) = true := by with_reducible assumption
       have hQ : C17.invB (ρ.l 0) (ρ.l 1) 64 = true := by with_reducible assumption
       have hO : ∀ row ∈ ρ.l 5, okRow KO row := hR.row 9 rfl rfl
       have hR1 : ∀ row ∈ ρ.l 4, okRow [.i .i64] row := hR.row 8 rfl rfl
       exact ev_ok hI hQ hO hR1 (by omega) (by omega) (by omega) (by omega) (by omega) (by omega))
    | (have hI : invS (ρ.l 5) (ρ.l 0) (ρ.l 4) = true := by with_reducible assumption
       have hQ : C17.invB (ρ.l 0) (ρ.l 1) 64 = true := by with_reducible assumption
       have hO : ∀ row ∈ ρ.l 5, okRow KO row := hR.row 9 rfl rfl
       have hR1 : ∀ row ∈ ρ.l 4, okRow [.i .i64] row := hR.row 8 rfl rfl
       have h : right8 (ρ.l 5) (ρ.i 0) = false := by with_reducible assumption
       have g : right8 (ρ.l 5) (ρ.i 0) = true := right_of hI hO (by omega) (by omega) (by omega)
       rw [g] at h
       cases h)
    | (have hI : invS (ρ.l 5) (ρ.l 0) (ρ.l 4) = true := by with_reducible assumption
       have hQ : C17.invB (ρ.l 0) (ρ.l 1) 64 = true := by with_reducible assumption
       have hO : ∀ row ∈ ρ.l 5, okRow KO row := hR.row 9 rfl rfl
       have hR1 : ∀ row ∈ ρ.l 4, okRow [.i .i64] row := hR.row 8 rfl rfl
       exfalso
       have g : cel (ρ.l 5) (ρ.i 0) 0 = 2 := by with_reducible assumption
       have g2 := idx_of hI (by omega) (by omega) g
       simp only [cel] at g2
       omega)
    | (omega)
    | (have m0 : 0 ≤ ρ.i 0 := by omega
       have m1 : 1 ≤ ((ρ.l 4).length : Int) := by omega
       have hm := home_in m0 m1
       exfalso
       omega)
theorem m4_ok (ρ : Env) : TblOK Φ ρ Try.prog m4 := addFn_ok (m3_ok ρ) cDo_ok
set_option maxRecDepth 100000 in
theorem cLe_obs : callObs Φ Try.prog m3 1000 cLe.f cLe.vs cLe.o cLe.pc cLe.outs = some
  [{pc := [.app 130 (.l (.app 337 (.l (.v 5) (.l (.v 0) (.i (.sel (.v 4) (.v 1) 0) (.i (.v 2) (.i (.c 0) (.i (.v 1) .nil))))))) (.l (.v 1000) (.i (.c 64) .nil))), .le (.len (.app 339 (.l (.v 5) (.l (.v 2) (.i (.sel (.v 4) (.v 1) 0) (.i (.v 2) (.i (.c 0) .nil))))))) (.len (.v 2)), .eq (.len (.app 338 (.l (.v 5) (.l (.v 4) (.i (.sel (.v 4) (.v 1) 0) (.i (.v 2) (.i (.c 0) .nil))))))) (.len (.v 4)), .eq (.len (.app 337 (.l (.v 5) (.l (.v 0) (.i (.sel (.v 4) (.v 1) 0) (.i (.v 2) (.i (.c 0) (.i (.v 1) .nil)))))))) (.len (.v 0)), .eq (.len (.app 331 (.l (.v 5) (.i (.sel (.v 4) (.v 1) 0) (.i (.v 2) (.i (.c 0) .nil)))))) (.len (.v 5)), .le (.c 0) (.sel (.v 4) (.v 1) 0), .lt (.sel (.v 4) (.v 1) 0) (.len (.v 5)), .app 331 (.l (.v 5) (.i (.sel (.v 4) (.v 1) 0) .nil)), .or (.not (.eq (.sel (.v 5) (.sel (.v 4) (.v 1) 0) 0) (.c 2))) (.and (.le (.c 0) (.sel (.v 5) (.sel (.v 4) (.v 1) 0) 1)) (.lt (.sel (.v 5) (.sel (.v 4) (.v 1) 0) 1) (.len (.v 4)))), .not (.eq (.sel (.v 4) (.v 1) 0) (.c (.negSucc 0))), .lt (.v 1) (.len (.v 4)), .le (.c 0) (.v 1), .eq (.v 2) (.c 3), .le (.c 1) (.len (.v 0)), .le (.len (.v 0)) (.c 8), .eq (.len (.v 4)) (.len (.v 0)), .le (.len (.v 5)) (.c 64), .le (.c 1) (.v 8), .le (.v 8) (.c 10000), .c true, .app 130 (.l (.v 0) (.l (.v 1) (.i (.c 64) .nil))), .app 332 (.l (.v 5) (.l (.v 0) (.l (.v 4) .nil)))], eqs := [.T (.app 332 (.l (.app 331 (.l (.v 5) (.i (.sel (.v 4) (.v 1) 0) (.i (.v 2) (.i (.c 0) .nil))))) (.l (.app 337 (.l (.v 5) (.l (.v 0) (.i (.sel (.v 4) (.v 1) 0) (.i (.v 2) (.i (.c 0) (.i (.v 1) .nil))))))) (.l (.app 338 (.l (.v 5) (.l (.v 4) (.i (.sel (.v 4) (.v 1) 0) (.i (.v 2) (.i (.c 0) .nil)))))) .nil))))]}, {pc := [.not (.le (.c 0) (.sel (.v 4) (.v 1) 0)), .not (.eq (.sel (.v 4) (.v 1) 0) (.c (.negSucc 0))), .lt (.v 1) (.len (.v 4)), .le (.c 0) (.v 1), .eq (.v 2) (.c 3), .le (.c 1) (.len (.v 0)), .le (.len (.v 0)) (.c 8), .eq (.len (.v 4)) (.len (.v 0)), .le (.len (.v 5)) (.c 64), .le (.c 1) (.v 8), .le (.v 8) (.c 10000), .c true, .app 130 (.l (.v 0) (.l (.v 1) (.i (.c 64) .nil))), .app 332 (.l (.v 5) (.l (.v 0) (.l (.v 4) .nil)))], eqs := [.T (.c false)]}, {pc := [.not (.lt (.sel (.v 4) (.v 1) 0) (.len (.v 5))), .not (.eq (.sel (.v 4) (.v 1) 0) (.c (.negSucc 0))), .lt (.v 1) (.len (.v 4)), .le (.c 0) (.v 1), .eq (.v 2) (.c 3), .le (.c 1) (.len (.v 0)), .le (.len (.v 0)) (.c 8), .eq (.len (.v 4)) (.len (.v 0)), .le (.len (.v 5)) (.c 64), .le (.c 1) (.v 8), .le (.v 8) (.c 10000), .c true, .app 130 (.l (.v 0) (.l (.v 1) (.i (.c 64) .nil))), .app 332 (.l (.v 5) (.l (.v 0) (.l (.v 4) .nil)))], eqs := [.T (.c false)]}, {pc := [.not (.app 331 (.l (.v 5) (.i (.sel (.v 4) (.v 1) 0) .nil))), .not (.eq (.sel (.v 4) (.v 1) 0) (.c (.negSucc 0))), .lt (.v 1) (.len (.v 4)), .le (.c 0) (.v 1), .eq (.v 2) (.c 3), .le (.c 1) (.len (.v 0)), .le (.len (.v 0)) (.c 8), .eq (.len (.v 4)) (.len (.v 0)), .le (.len (.v 5)) (.c 64), .le (.c 1) (.v 8), .le (.v 8) (.c 10000), .c true, .app 130 (.l (.v 0) (.l (.v 1) (.i (.c 64) .nil))), .app 332 (.l (.v 5) (.l (.v 0) (.l (.v 4) .nil)))], eqs := [.T (.c false)]}, {pc := [.not (.or (.not (.eq (.sel (.v 5) (.sel (.v 4) (.v 1) 0) 0) (.c 2))) (.and (.le (.c 0) (.sel (.v 5) (.sel (.v 4) (.v 1) 0) 1)) (.lt (.sel (.v 5) (.sel (.v 4) (.v 1) 0) 1) (.len (.v 4))))), .not (.eq (.sel (.v 4) (.v 1) 0) (.c (.negSucc 0))), .lt (.v 1) (.len (.v 4)), .le (.c 0) (.v 1), .eq (.v 2) (.c 3), .le (.c 1) (.len (.v 0)), .le (.len (.v 0)) (.c 8), .eq (.len (.v 4)) (.len (.v 0)), .le (.len (.v 5)) (.c 64), .le (.c 1) (.v 8), .le (.v 8) (.c 10000), .c true, .app 130 (.l (.v 0) (.l (.v 1) (.i (.c 64) .nil))), .app 332 (.l (.v 5) (.l (.v 0) (.l (.v 4) .nil)))], eqs := [.T (.c false)]}, {pc := [.app 130 (.l (.app 337 (.l (.v 5) (.l (.v 0) (.i (.sel (.v 4) (.v 1) 0) (.i (.v 2) (.i (.c 0) (.i (.v 1) .nil))))))) (.l (.v 1000) (.i (.c 64) .nil))), .le (.len (.app 339 (.l (.v 5) (.l (.v 2) (.i (.sel (.v 4) (.v 1) 0) (.i (.v 2) (.i (.c 0) .nil))))))) (.len (.v 2)), .eq (.len (.app 338 (.l (.v 5) (.l (.v 4) (.i (.sel (.v 4) (.v 1) 0) (.i (.v 2) (.i (.c 0) .nil))))))) (.len (.v 4)), .eq (.len (.app 337 (.l (.v 5) (.l (.v 0) (.i (.sel (.v 4) (.v 1) 0) (.i (.v 2) (.i (.c 0) (.i (.v 1) .nil)))))))) (.len (.v 0)), .eq (.len (.app 331 (.l (.v 5) (.i (.sel (.v 4) (.v 1) 0) (.i (.v 2) (.i (.c 0) .nil)))))) (.len (.v 5)), .le (.c 0) (.sel (.v 4) (.v 1) 0), .lt (.sel (.v 4) (.v 1) 0) (.len (.v 5)), .app 331 (.l (.v 5) (.i (.sel (.v 4) (.v 1) 0) .nil)), .or (.not (.eq (.sel (.v 5) (.sel (.v 4) (.v 1) 0) 0) (.c 2))) (.and (.le (.c 0) (.sel (.v 5) (.sel (.v 4) (.v 1) 0) 1)) (.lt (.sel (.v 5) (.sel (.v 4) (.v 1) 0) 1) (.len (.v 4)))), .not (.eq (.sel (.v 4) (.v 1) 0) (.c (.negSucc 0))), .lt (.v 1) (.len (.v 4)), .le (.c 0) (.v 1), .eq (.v 2) (.c 4), .not (.eq (.v 2) (.c 3)), .le (.c 1) (.len (.v 0)), .le (.len (.v 0)) (.c 8), .eq (.len (.v 4)) (.len (.v 0)), .le (.len (.v 5)) (.c 64), .le (.c 1) (.v 8), .le (.v 8) (.c 10000), .c true, .app 130 (.l (.v 0) (.l (.v 1) (.i (.c 64) .nil))), .app 332 (.l (.v 5) (.l (.v 0) (.l (.v 4) .nil)))], eqs := [.T (.app 332 (.l (.app 331 (.l (.v 5) (.i (.sel (.v 4) (.v 1) 0) (.i (.v 2) (.i (.c 0) .nil))))) (.l (.app 337 (.l (.v 5) (.l (.v 0) (.i (.sel (.v 4) (.v 1) 0) (.i (.v 2) (.i (.c 0) (.i (.v 1) .nil))))))) (.l (.app 338 (.l (.v 5) (.l (.v 4) (.i (.sel (.v 4) (.v 1) 0) (.i (.v 2) (.i (.c 0) .nil)))))) .nil))))]}, {pc := [.not (.le (.c 0) (.sel (.v 4) (.v 1) 0)), .not (.eq (.sel (.v 4) (.v 1) 0) (.c (.negSucc 0))), .lt (.v 1) (.len (.v 4)), .le (.c 0) (.v 1), .eq (.v 2) (.c 4), .not (.eq (.v 2) (.c 3)), .le (.c 1) (.len (.v 0)), .le (.len (.v 0)) (.c 8), .eq (.len (.v 4)) (.len (.v 0)), .le (.len (.v 5)) (.c 64), .le (.c 1) (.v 8), .le (.v 8) (.c 10000), .c true, .app 130 (.l (.v 0) (.l (.v 1) (.i (.c 64) .nil))), .app 332 (.l (.v 5) (.l (.v 0) (.l (.v 4) .nil)))], eqs := [.T (.c false)]}, {pc := [.not (.lt (.sel (.v 4) (.v 1) 0) (.len (.v 5))), .not (.eq (.sel (.v 4) (.v 1) 0) (.c (.negSucc 0))), .lt (.v 1) (.len (.v 4)), .le (.c 0) (.v 1), .eq (.v 2) (.c 4), .not (.eq (.v 2) (.c 3)), .le (.c 1) (.len (.v 0)), .le (.len (.v 0)) (.c 8), .eq (.len (.v 4)) (.len (.v 0)), .le (.len (.v 5)) (.c 64), .le (.c 1) (.v 8), .le (.v 8) (.c 10000), .c true, .app 130 (.l (.v 0) (.l (.v 1) (.i (.c 64) .nil))), .app 332 (.l (.v 5) (.l (.v 0) (.l (.v 4) .nil)))], eqs := [.T (.c false)]}, {pc := [.not (.app 331 (.l (.v 5) (.i (.sel (.v 4) (.v 1) 0) .nil))), .not (.eq (.sel (.v 4) (.v 1) 0) (.c (.negSucc 0))), .lt (.v 1) (.len (.v 4)), .le (.c 0) (.v 1), .eq (.v 2) (.c 4), .not (.eq (.v 2) (.c 3)), .le (.c 1) (.len (.v 0)), .le (.len (.v 0)) (.c 8), .eq (.len (.v 4)) (.len (.v 0)), .le (.len (.v 5)) (.c 64), .le (.c 1) (.v 8), .le (.v 8) (.c 10000), .c true, .app 130 (.l (.v 0) (.l (.v 1) (.i (.c 64) .nil))), .app 332 (.l (.v 5) (.l (.v 0) (.l (.v 4) .nil)))], eqs := [.T (.c false)]}, {pc := [.not (.or (.not (.eq (.sel (.v 5) (.sel (.v 4) (.v 1) 0) 0) (.c 2))) (.and (.le (.c 0) (.sel (.v 5) (.sel (.v 4) (.v 1) 0) 1)) (.lt (.sel (.v 5) (.sel (.v 4) (.v 1) 0) 1) (.len (.v 4))))), .not (.eq (.sel (.v 4) (.v 1) 0) (.c (.negSucc 0))), .lt (.v 1) (.len (.v 4)), .le (.c 0) (.v 1), .eq (.v 2) (.c 4), .not (.eq (.v 2) (.c 3)), .le (.c 1) (.len (.v 0)), .le (.len (.v 0)) (.c 8), .eq (.len (.v 4)) (.len (.v 0)), .le (.len (.v 5)) (.c 64), .le (.c 1) (.v 8), .le (.v 8) (.c 10000), .c true, .app 130 (.l (.v 0) (.l (.v 1) (.i (.c 64) .nil))), .app 332 (.l (.v 5) (.l (.v 0) (.l (.v 4) .nil)))], eqs := [.T (.c false)]}] := by kernel_rfl
theorem cLe_ok : cLe.ok Φ Try.prog := by
  refine call_rule (fun ρ => m3_ok ρ) cLe_obs ?_
  simp only [and_imp, List.forall_mem_cons, List.not_mem_nil, false_implies, implies_true, and_true, Ob.ok, holds, Eqn.ok, evB_eq, evB_lt, evB_le, evB_not, evB_and, evB_or, evB_eqL, evB_app, evB_v, evB_c, ev_sel, ev_len, ev_v, ev_c, ev_add, ev_sub, ev_mul, ev_quo, ev_rem, ev_bits, ev_wrap, evL_v, evL_lit, evL_app, ev_app, evA_l, evA_i, evA_nil, std_min, std_max, std_cat, std_take, std_drop, std_row, std_set, std_rep, std_find, std_put, std_del, std_flag, std_unflag, std_clr, std_left, std_copy, std_cnt, std_catS, std_lenS, std_atS, std_subS, std_ofB, std_snd, std_rcv, ints_cons, ints_nil, ofNat_lit, negSucc_lit, decide_eq_true_eq, Bool.and_eq_true, Bool.or_eq_true, Bool.not_eq_true', Bool.and_eq_false_iff, Bool.or_eq_false_iff, decide_eq_false_iff_not, aL330, aL331, aL332, aL333, aL334, aL335, aL336, aL337, aL338, aL339, aI340, aB330, aB331, aB199, Bool.not_eq_false', Q.aB130, Q.aL112, Q.aL110, aL341, aB332, aL311, aL310, Q.aL111, Q.aI112, Q.aI111, Q.aB132, T.aI214, T.aI215, std_rowT, std_row]
  repeat' apply And.intro
  all_goals intro ρ hR
  all_goals intros
  all_goals first
    | (have hI : invS (ρ.l 5) (ρ.l 0) (ρ.l 4) = true := by with_reducible assumption
       have hQ : C17.invB (ρ.l 0) (ρ.l 1) 64 = true := by with_reducible assumption
       have hO : ∀ row ∈ ρ.l 5, okRow KO row := hR.row 9 rfl rfl
       have hR1 : ∀ row ∈ ρ.l 4, okRow [.i .i64] row := hR.row 8 rfl rfl
       have hne : ¬ ((List.getD (ρ.l 4) (Int.toNat (ρ.i 1)) []).getD 0 0) = -1 := by omega
       have r0 : 0 ≤ ρ.i 1 := by omega
       have r1 : ρ.i 1 < (ρ.l 4).length := by omega
       have r := in_run hI r0 r1 hne
       simp only [cel] at r
       have hI : invS (ρ.l 5) (ρ.l 0) (ρ.l 4) = true := by with_reducible assumption
       have hQ : C17.invB (ρ.l 0) (ρ.l 1) 64 = true := by with_reducible assumption
       have hO : ∀ row ∈ ρ.l 5, okRow KO row := hR.row 9 rfl rfl
       have hR1 : ∀ row ∈ ρ.l 4, okRow [.i .i64] row := hR.row 8 rfl rfl
       exact ev_ok hI hQ hO hR1 (by omega) (by omega) (by omega) (by omega) (by omega) (by omega))
    | (have hI : invS (ρ.l 5) (ρ.l 0) (ρ.l 4) = true := by with_reducible assumption
       have hQ : C17.invB (ρ.l 0) (ρ.l 1) 64 = true := by with_reducible assumption
       have hO : ∀ row ∈ ρ.l 5, okRow KO row := hR.row 9 rfl rfl
       have hR1 : ∀ row ∈ ρ.l 4, okRow [.i .i64] row := hR.row 8 rfl rfl
       have hne : ¬ ((List.getD (ρ.l 4) (Int.toNat (ρ.i 1)) []).getD 0 0) = -1 := by omega
       have r0 : 0 ≤ ρ.i 1 := by omega
       have r1 : ρ.i 1 < (ρ.l 4).length := by omega
       have r := in_run hI r0 r1 hne
       simp only [cel] at r
       have hI : invS (ρ.l 5) (ρ.l 0) (ρ.l 4) = true := by with_reducible assumption
       have hQ : C17.invB (ρ.l 0) (ρ.l 1) 64 = true := by with_reducible assumption
       have hO : ∀ row ∈ ρ.l 5, okRow KO row := hR.row 9 rfl rfl
       have hR1 : ∀ row ∈ ρ.l 4, okRow [.i .i64] row := hR.row 8 rfl rfl
       have h : right8 (ρ.l 5) ((List.getD (ρ.l 4) (Int.toNat (ρ.i 1)) []).getD 0 0) = false := by with_reducible assumption
       have g : right8 (ρ.l 5) ((List.getD (ρ.l 4) (Int.toNat (ρ.i 1)) []).getD 0 0) = true := right_of hI hO (by omega) (by omega) (by omega)
       rw [g] at h
       cases h)
    | (have hI : invS (ρ.l 5) (ρ.l 0) (ρ.l 4) = true := by with_reducible assumption
       have hQ : C17.invB (ρ.l 0) (ρ.l 1) 64 = true := by with_reducible assumption
       have hO : ∀ row ∈ ρ.l 5, okRow KO row := hR.row 9 rfl rfl
       have hR1 : ∀ row ∈ ρ.l 4, okRow [.i .i64] row := hR.row 8 rfl rfl
       have hne : ¬ ((List.getD (ρ.l 4) (Int.toNat (ρ.i 1)) []).getD 0 0) = -1 := by omega
       have r0 : 0 ≤ ρ.i 1 := by omega
       have r1 : ρ.i 1 < (ρ.l 4).length := by omega
       have r := in_run hI r0 r1 hne
       simp only [cel] at r
       have hI : invS (ρ.l 5) (ρ.l 0) (ρ.l 4) = true := by with_reducible assumption
       have hQ : C17.invB (ρ.l 0) (ρ.l 1) 64 = true := by with_reducible assumption
       have hO : ∀ row ∈ ρ.l 5, okRow KO row := hR.row 9 rfl rfl
       have hR1 : ∀ row ∈ ρ.l 4, okRow [.i .i64] row := hR.row 8 rfl rfl
       exfalso
       have g : cel (ρ.l 5) ((List.getD (ρ.l 4) (Int.toNat (ρ.i 1)) []).getD 0 0) 0 = 2 := by with_reducible assumption
       have g2 := idx_of hI (by omega) (by omega) g
       simp only [cel] at g2
       omega)
    | (have hI : invS (ρ.l 5) (ρ.l 0) (ρ.l 4) = true := by with_reducible assumption
       have hQ : C17.invB (ρ.l 0) (ρ.l 1) 64 = true := by with_reducible assumption
       have hO : ∀ row ∈ ρ.l 5, okRow KO row := hR.row 9 rfl rfl
       have hR1 : ∀ row ∈ ρ.l 4, okRow [.i .i64] row := hR.row 8 rfl rfl
       have hne : ¬ ((List.getD (ρ.l 4) (Int.toNat (ρ.i 1)) []).getD 0 0) = -1 := by omega
       have r0 : 0 ≤ ρ.i 1 := by omega
       have r1 : ρ.i 1 < (ρ.l 4).length := by omega
       have r := in_run hI r0 r1 hne
       simp only [cel] at r
       exfalso
       omega)
set_option maxRecDepth 100000 in
theorem cCh_obs : callObs Φ Try.prog m3 1000 cCh.f cCh.vs cCh.o cCh.pc cCh.outs = some
  [] := by kernel_rfl
theorem cCh_ok : cCh.ok Φ Try.prog := by
  refine call_rule (fun ρ => m3_ok ρ) cCh_obs ?_
  intro ob h; cases h
set_option maxRecDepth 100000 in
theorem cDp_obs : callObs Φ Try.prog m3 1000 cDp.f cDp.vs cDp.o cDp.pc cDp.outs = some
  [{pc := [.lt (.sel (.app 6 (.l (.v 3) (.i (.app 112 (.l (.v 0) (.i (.v 1) .nil))) .nil))) (.c 0) 1) (.c 1), .app 130 (.l (.app 337 (.l (.v 5) (.l (.app 111 (.l (.v 0) (.i (.v 1) .nil))) (.i (.app 112 (.l (.v 0) (.i (.v 1) .nil))) (.i (.c 2) (.i (.v 1) (.i (.v 1) .nil))))))) (.l (.v 2000) (.i (.c 64) .nil))), .le (.len (.app 339 (.l (.v 5) (.l (.v 2) (.i (.app 112 (.l (.v 0) (.i (.v 1) .nil))) (.i (.c 2) (.i (.v 1) .nil))))))) (.len (.v 2)), .eq (.len (.app 338 (.l (.v 5) (.l (.v 4) (.i (.app 112 (.l (.v 0) (.i (.v 1) .nil))) (.i (.c 2) (.i (.v 1) .nil))))))) (.len (.v 4)), .eq (.len (.app 337 (.l (.v 5) (.l (.app 111 (.l (.v 0) (.i (.v 1) .nil))) (.i (.app 112 (.l (.v 0) (.i (.v 1) .nil))) (.i (.c 2) (.i (.v 1) (.i (.v 1) .nil)))))))) (.len (.app 111 (.l (.v 0) (.i (.v 1) .nil)))), .eq (.len (.app 331 (.l (.v 5) (.i (.app 112 (.l (.v 0) (.i (.v 1) .nil))) (.i (.c 2) (.i (.v 1) .nil)))))) (.len (.v 5)), .le (.c 0) (.app 112 (.l (.v 0) (.i (.v 1) .nil))), .lt (.app 112 (.l (.v 0) (.i (.v 1) .nil))) (.len (.v 5)), .app 331 (.l (.v 5) (.i (.app 112 (.l (.v 0) (.i (.v 1) .nil))) .nil)), .or (.not (.eq (.sel (.v 5) (.app 112 (.l (.v 0) (.i (.v 1) .nil))) 0) (.c 2))) (.and (.le (.c 0) (.sel (.v 5) (.app 112 (.l (.v 0) (.i (.v 1) .nil))) 1)) (.lt (.sel (.v 5) (.app 112 (.l (.v 0) (.i (.v 1) .nil))) 1) (.len (.v 4)))), .app 130 (.l (.app 111 (.l (.v 0) (.i (.v 1) .nil))) (.l (.v 1000) (.i (.c 64) .nil))), .eq (.len (.app 111 (.l (.v 0) (.i (.v 1) .nil)))) (.len (.v 0)), .lt (.app 111 (.l (.v 0) (.i (.v 1) .nil))) (.len (.v 0)), .le (.c 0) (.app 111 (.l (.v 0) (.i (.v 1) .nil))), .app 132 (.l (.v 0) .nil), .eq (.sel (.v 4) (.v 1) 0) (.c (.negSucc 0)), .lt (.v 1) (.len (.v 4)), .le (.c 0) (.v 1), .le (.c 1) (.len (.v 0)), .le (.len (.v 0)) (.c 8), .eq (.len (.v 4)) (.len (.v 0)), .le (.len (.v 5)) (.c 64), .le (.c 1) (.v 8), .le (.v 8) (.c 10000), .c true, .app 130 (.l (.v 0) (.l (.v 1) (.i (.c 64) .nil))), .app 332 (.l (.v 5) (.l (.v 0) (.l (.v 4) .nil)))], eqs := [.T (.app 130 (.l (.app 111 (.l (.v 0) (.i (.v 1) .nil))) (.l (.v 2000) (.i (.c 64) .nil)))), .T (.app 332 (.l (.app 331 (.l (.v 5) (.i (.app 112 (.l (.v 0) (.i (.v 1) .nil))) (.i (.c 2) (.i (.v 1) .nil))))) (.l (.app 111 (.l (.v 0) (.i (.v 1) .nil))) (.l (.app 4 (.l (.v 4) (.i (.v 1) (.i (.c 0) (.i (.app 112 (.l (.v 0) (.i (.v 1) .nil))) .nil))))) .nil)))), .I (.len (.v 4)) (.len (.app 338 (.l (.v 5) (.l (.v 4) (.i (.app 112 (.l (.v 0) (.i (.v 1) .nil))) (.i (.c 2) (.i (.v 1) .nil))))))), .I (.len (.app 111 (.l (.v 0) (.i (.v 1) .nil)))) (.len (.app 337 (.l (.v 5) (.l (.app 111 (.l (.v 0) (.i (.v 1) .nil))) (.i (.app 112 (.l (.v 0) (.i (.v 1) .nil))) (.i (.c 2) (.i (.v 1) (.i (.v 1) .nil)))))))), .L (.v 2) (.app 339 (.l (.v 5) (.l (.v 2) (.i (.app 112 (.l (.v 0) (.i (.v 1) .nil))) (.i (.c 2) (.i (.v 1) .nil)))))), .L (.app 341 (.l (.v 3) (.i (.app 112 (.l (.v 0) (.i (.v 1) .nil))) (.i (.v 8) .nil)))) (.app 7 (.l (.v 3) (.i (.app 112 (.l (.v 0) (.i (.v 1) .nil))) (.i (.app 214 (.l (.v 3) (.i (.app 112 (.l (.v 0) (.i (.v 1) .nil))) (.i (.v 8) (.i (.c 1) .nil))))) .nil)))), .L (.app 4 (.l (.v 4) (.i (.v 1) (.i (.c 0) (.i (.app 112 (.l (.v 0) (.i (.v 1) .nil))) .nil))))) (.app 338 (.l (.v 5) (.l (.v 4) (.i (.app 112 (.l (.v 0) (.i (.v 1) .nil))) (.i (.c 2) (.i (.v 1) .nil)))))), .L (.app 111 (.l (.v 0) (.i (.v 1) .nil))) (.app 337 (.l (.v 5) (.l (.app 111 (.l (.v 0) (.i (.v 1) .nil))) (.i (.app 112 (.l (.v 0) (.i (.v 1) .nil))) (.i (.c 2) (.i (.v 1) (.i (.v 1) .nil)))))))]}, {pc := [.not (.lt (.sel (.app 6 (.l (.v 3) (.i (.app 112 (.l (.v 0) (.i (.v 1) .nil))) .nil))) (.c 0) 1) (.c 1)), .app 130 (.l (.app 337 (.l (.v 5) (.l (.app 111 (.l (.v 0) (.i (.v 1) .nil))) (.i (.app 112 (.l (.v 0) (.i (.v 1) .nil))) (.i (.c 2) (.i (.v 1) (.i (.v 1) .nil))))))) (.l (.v 2000) (.i (.c 64) .nil))), .le (.len (.app 339 (.l (.v 5) (.l (.v 2) (.i (.app 112 (.l (.v 0) (.i (.v 1) .nil))) (.i (.c 2) (.i (.v 1) .nil))))))) (.len (.v 2)), .eq (.len (.app 338 (.l (.v 5) (.l (.v 4) (.i (.app 112 (.l (.v 0) (.i (.v 1) .nil))) (.i (.c 2) (.i (.v 1) .nil))))))) (.len (.v 4)), .eq (.len (.app 337 (.l (.v 5) (.l (.app 111 (.l (.v 0) (.i (.v 1) .nil))) (.i (.app 112 (.l (.v 0) (.i (.v 1) .nil))) (.i (.c 2) (.i (.v 1) (.i (.v 1) .nil)))))))) (.len (.app 111 (.l (.v 0) (.i (.v 1) .nil)))), .eq (.len (.app 331 (.l (.v 5) (.i (.app 112 (.l (.v 0) (.i (.v 1) .nil))) (.i (.c 2) (.i (.v 1) .nil)))))) (.len (.v 5)), .le (.c 0) (.app 112 (.l (.v 0) (.i (.v 1) .nil))), .lt (.app 112 (.l (.v 0) (.i (.v 1) .nil))) (.len (.v 5)), .app 331 (.l (.v 5) (.i (.app 112 (.l (.v 0) (.i (.v 1) .nil))) .nil)), .or (.not (.eq (.sel (.v 5) (.app 112 (.l (.v 0) (.i (.v 1) .nil))) 0) (.c 2))) (.and (.le (.c 0) (.sel (.v 5) (.app 112 (.l (.v 0) (.i (.v 1) .nil))) 1)) (.lt (.sel (.v 5) (.app 112 (.l (.v 0) (.i (.v 1) .nil))) 1) (.len (.v 4)))), .app 130 (.l (.app 111 (.l (.v 0) (.i (.v 1) .nil))) (.l (.v 1000) (.i (.c 64) .nil))), .eq (.len (.app 111 (.l (.v 0) (.i (.v 1) .nil)))) (.len (.v 0)), .lt (.app 111 (.l (.v 0) (.i (.v 1) .nil))) (.len (.v 0)), .le (.c 0) (.app 111 (.l (.v 0) (.i (.v 1) .nil))), .app 132 (.l (.v 0) .nil), .eq (.sel (.v 4) (.v 1) 0) (.c (.negSucc 0)), .lt (.v 1) (.len (.v 4)), .le (.c 0) (.v 1), .le (.c 1) (.len (.v 0)), .le (.len (.v 0)) (.c 8), .eq (.len (.v 4)) (.len (.v 0)), .le (.len (.v 5)) (.c 64), .le (.c 1) (.v 8), .le (.v 8) (.c 10000), .c true, .app 130 (.l (.v 0) (.l (.v 1) (.i (.c 64) .nil))), .app 332 (.l (.v 5) (.l (.v 0) (.l (.v 4) .nil)))], eqs := [.T (.app 130 (.l (.app 111 (.l (.v 0) (.i (.v 1) .nil))) (.l (.v 2000) (.i (.c 64) .nil)))), .T (.app 332 (.l (.app 331 (.l (.v 5) (.i (.app 112 (.l (.v 0) (.i (.v 1) .nil))) (.i (.c 2) (.i (.v 1) .nil))))) (.l (.app 111 (.l (.v 0) (.i (.v 1) .nil))) (.l (.app 4 (.l (.v 4) (.i (.v 1) (.i (.c 0) (.i (.app 112 (.l (.v 0) (.i (.v 1) .nil))) .nil))))) .nil)))), .I (.len (.v 4)) (.len (.app 338 (.l (.v 5) (.l (.v 4) (.i (.app 112 (.l (.v 0) (.i (.v 1) .nil))) (.i (.c 2) (.i (.v 1) .nil))))))), .I (.len (.app 111 (.l (.v 0) (.i (.v 1) .nil)))) (.len (.app 337 (.l (.v 5) (.l (.app 111 (.l (.v 0) (.i (.v 1) .nil))) (.i (.app 112 (.l (.v 0) (.i (.v 1) .nil))) (.i (.c 2) (.i (.v 1) (.i (.v 1) .nil)))))))), .L (.v 2) (.app 339 (.l (.v 5) (.l (.v 2) (.i (.app 112 (.l (.v 0) (.i (.v 1) .nil))) (.i (.c 2) (.i (.v 1) .nil)))))), .L (.app 341 (.l (.v 3) (.i (.app 112 (.l (.v 0) (.i (.v 1) .nil))) (.i (.v 8) .nil)))) (.v 3), .L (.app 4 (.l (.v 4) (.i (.v 1) (.i (.c 0) (.i (.app 112 (.l (.v 0) (.i (.v 1) .nil))) .nil))))) (.app 338 (.l (.v 5) (.l (.v 4) (.i (.app 112 (.l (.v 0) (.i (.v 1) .nil))) (.i (.c 2) (.i (.v 1) .nil)))))), .L (.app 111 (.l (.v 0) (.i (.v 1) .nil))) (.app 337 (.l (.v 5) (.l (.app 111 (.l (.v 0) (.i (.v 1) .nil))) (.i (.app 112 (.l (.v 0) (.i (.v 1) .nil))) (.i (.c 2) (.i (.v 1) (.i (.v 1) .nil)))))))]}, {pc := [.not (.le (.c 0) (.app 112 (.l (.v 0) (.i (.v 1) .nil)))), .app 130 (.l (.app 111 (.l (.v 0) (.i (.v 1) .nil))) (.l (.v 1000) (.i (.c 64) .nil))), .eq (.len (.app 111 (.l (.v 0) (.i (.v 1) .nil)))) (.len (.v 0)), .lt (.app 111 (.l (.v 0) (.i (.v 1) .nil))) (.len (.v 0)), .le (.c 0) (.app 111 (.l (.v 0) (.i (.v 1) .nil))), .app 132 (.l (.v 0) .nil), .eq (.sel (.v 4) (.v 1) 0) (.c (.negSucc 0)), .lt (.v 1) (.len (.v 4)), .le (.c 0) (.v 1), .le (.c 1) (.len (.v 0)), .le (.len (.v 0)) (.c 8), .eq (.len (.v 4)) (.len (.v 0)), .le (.len (.v 5)) (.c 64), .le (.c 1) (.v 8), .le (.v 8) (.c 10000), .c true, .app 130 (.l (.v 0) (.l (.v 1) (.i (.c 64) .nil))), .app 332 (.l (.v 5) (.l (.v 0) (.l (.v 4) .nil)))], eqs := [.T (.c false)]}, {pc := [.not (.lt (.app 112 (.l (.v 0) (.i (.v 1) .nil))) (.len (.v 5))), .app 130 (.l (.app 111 (.l (.v 0) (.i (.v 1) .nil))) (.l (.v 1000) (.i (.c 64) .nil))), .eq (.len (.app 111 (.l (.v 0) (.i (.v 1) .nil)))) (.len (.v 0)), .lt (.app 111 (.l (.v 0) (.i (.v 1) .nil))) (.len (.v 0)), .le (.c 0) (.app 111 (.l (.v 0) (.i (.v 1) .nil))), .app 132 (.l (.v 0) .nil), .eq (.sel (.v 4) (.v 1) 0) (.c (.negSucc 0)), .lt (.v 1) (.len (.v 4)), .le (.c 0) (.v 1), .le (.c 1) (.len (.v 0)), .le (.len (.v 0)) (.c 8), .eq (.len (.v 4)) (.len (.v 0)), .le (.len (.v 5)) (.c 64), .le (.c 1) (.v 8), .le (.v 8) (.c 10000), .c true, .app 130 (.l (.v 0) (.l (.v 1) (.i (.c 64) .nil))), .app 332 (.l (.v 5) (.l (.v 0) (.l (.v 4) .nil)))], eqs := [.T (.c false)]}, {pc := [.not (.app 331 (.l (.v 5) (.i (.app 112 (.l (.v 0) (.i (.v 1) .nil))) .nil))), .app 130 (.l (.app 111 (.l (.v 0) (.i (.v 1) .nil))) (.l (.v 1000) (.i (.c 64) .nil))), .eq (.len (.app 111 (.l (.v 0) (.i (.v 1) .nil)))) (.len (.v 0)), .lt (.app 111 (.l (.v 0) (.i (.v 1) .nil))) (.len (.v 0)), .le (.c 0) (.app 111 (.l (.v 0) (.i (.v 1) .nil))), .app 132 (.l (.v 0) .nil), .eq (.sel (.v 4) (.v 1) 0) (.c (.negSucc 0)), .lt (.v 1) (.len (.v 4)), .le (.c 0) (.v 1), .le (.c 1) (.len (.v 0)), .le (.len (.v 0)) (.c 8), .eq (.len (.v 4)) (.len (.v 0)), .le (.len (.v 5)) (.c 64), .le (.c 1) (.v 8), .le (.v 8) (.c 10000), .c true, .app 130 (.l (.v 0) (.l (.v 1) (.i (.c 64) .nil))), .app 332 (.l (.v 5) (.l (.v 0) (.l (.v 4) .nil)))], eqs := [.T (.c false)]}, {pc := [.not (.or (.not (.eq (.sel (.v 5) (.app 112 (.l (.v 0) (.i (.v 1) .nil))) 0) (.c 2))) (.and (.le (.c 0) (.sel (.v 5) (.app 112 (.l (.v 0) (.i (.v 1) .nil))) 1)) (.lt (.sel (.v 5) (.app 112 (.l (.v 0) (.i (.v 1) .nil))) 1) (.len (.v 4))))), .app 130 (.l (.app 111 (.l (.v 0) (.i (.v 1) .nil))) (.l (.v 1000) (.i (.c 64) .nil))), .eq (.len (.app 111 (.l (.v 0) (.i (.v 1) .nil)))) (.len (.v 0)), .lt (.app 111 (.l (.v 0) (.i (.v 1) .nil))) (.len (.v 0)), .le (.c 0) (.app 111 (.l (.v 0) (.i (.v 1) .nil))), .app 132 (.l (.v 0) .nil), .eq (.sel (.v 4) (.v 1) 0) (.c (.negSucc 0)), .lt (.v 1) (.len (.v 4)), .le (.c 0) (.v 1), .le (.c 1) (.len (.v 0)), .le (.len (.v 0)) (.c 8), .eq (.len (.v 4)) (.len (.v 0)), .le (.len (.v 5)) (.c 64), .le (.c 1) (.v 8), .le (.v 8) (.c 10000), .c true, .app 130 (.l (.v 0) (.l (.v 1) (.i (.c 64) .nil))), .app 332 (.l (.v 5) (.l (.v 0) (.l (.v 4) .nil)))], eqs := [.T (.c false)]}] := by kernel_rfl
theorem cDp_ok : cDp.ok Φ Try.prog := by
  refine call_rule (fun ρ => m3_ok ρ) cDp_obs ?_
  simp only [and_imp, List.forall_mem_cons, List.not_mem_nil, false_implies, implies_true, and_true, Ob.ok, holds, Eqn.ok, evB_eq, evB_lt, evB_le, evB_not, evB_and, evB_or, evB_eqL, evB_app, evB_v, evB_c, ev_sel, ev_len, ev_v, ev_c, ev_add, ev_sub, ev_mul, ev_quo, ev_rem, ev_bits, ev_wrap, evL_v, evL_lit, evL_app, ev_app, evA_l, evA_i, evA_nil, std_min, std_max, std_cat, std_take, std_drop, std_row, std_set, std_rep, std_find, std_put, std_del, std_flag, std_unflag, std_clr, std_left, std_copy, std_cnt, std_catS, std_lenS, std_atS, std_subS, std_ofB, std_snd, std_rcv, ints_cons, ints_nil, ofNat_lit, negSucc_lit, decide_eq_true_eq, Bool.and_eq_true, Bool.or_eq_true, Bool.not_eq_true', Bool.and_eq_false_iff, Bool.or_eq_false_iff, decide_eq_false_iff_not, aL330, aL331, aL332, aL333, aL334, aL335, aL336, aL337, aL338, aL339, aI340, aB330, aB331, aB199, Bool.not_eq_false', Q.aB130, Q.aL112, Q.aL110, aL341, aB332, aL311, aL310, Q.aL111, Q.aI112, Q.aI111, Q.aB132, T.aI214, T.aI215, std_rowT, std_row]
  repeat' apply And.intro
  all_goals intro ρ hR
  all_goals intros
  all_goals first
    | (have hI : invS (ρ.l 5) (ρ.l 0) (ρ.l 4) = true := by with_reducible assumption
       have hQ : C17.invB (ρ.l 0) (ρ.l 1) 64 = true := by with_reducible assumption
       have hO : ∀ row ∈ ρ.l 5, okRow KO row := hR.row 9 rfl rfl
       have hR1 : ∀ row ∈ ρ.l 4, okRow [.i .i64] row := hR.row 8 rfl rfl
       have ha : C17.anyB (ρ.l 0) = true := by with_reducible assumption
       have a0 : 1 ≤ ((ρ.l 0).length : Int) := by omega
       have a1 : 0 ≤ ρ.i 1 := by omega
       have a2 : ρ.i 1 < (ρ.l 0).length := by omega
       have pi := pop_in hI a0 a1 a2 ha
       have he : ((List.getD (ρ.l 4) (Int.toNat (ρ.i 1)) []).getD 0 0) = -1 := by omega
       have a3 : ρ.i 1 < (ρ.l 4).length := by omega
       have a4 : ((ρ.l 4).length : Int) = (ρ.l 0).length := by omega
       have v := disp_ok (B := ρ.l 2) hI hQ hO hR1 a0 a4 a1 a3 he ha
       have w : ((List.getD (findK (ρ.l 3) (C17.popX (ρ.l 0) (ρ.i 1))) (Int.toNat 0) []).getD 1 0) < 1 := by with_reducible assumption
       rw [v.2.1, v.2.2.1, v.2.2.2, ds_yes w]
       refine ⟨?_, v.1, ?_, rfl, rfl, rfl, rfl, rfl⟩
       · have h : C17.invB (evA (ρ.l 5) (C17.popT (ρ.l 0) (ρ.i 1)) (C17.popX (ρ.l 0) (ρ.i 1)) 2 (ρ.i 1) (ρ.i 1)) (ρ.l 2000) 64 = true := by with_reducible assumption
         rw [v.2.1] at h
         exact h
       · rw [setC_len])
    | (have hI : invS (ρ.l 5) (ρ.l 0) (ρ.l 4) = true := by with_reducible assumption
       have hQ : C17.invB (ρ.l 0) (ρ.l 1) 64 = true := by with_reducible assumption
       have hO : ∀ row ∈ ρ.l 5, okRow KO row := hR.row 9 rfl rfl
       have hR1 : ∀ row ∈ ρ.l 4, okRow [.i .i64] row := hR.row 8 rfl rfl
       have ha : C17.anyB (ρ.l 0) = true := by with_reducible assumption
       have a0 : 1 ≤ ((ρ.l 0).length : Int) := by omega
       have a1 : 0 ≤ ρ.i 1 := by omega
       have a2 : ρ.i 1 < (ρ.l 0).length := by omega
       have pi := pop_in hI a0 a1 a2 ha
       have he : ((List.getD (ρ.l 4) (Int.toNat (ρ.i 1)) []).getD 0 0) = -1 := by omega
       have a3 : ρ.i 1 < (ρ.l 4).length := by omega
       have a4 : ((ρ.l 4).length : Int) = (ρ.l 0).length := by omega
       have v := disp_ok (B := ρ.l 2) hI hQ hO hR1 a0 a4 a1 a3 he ha
       have w : ¬ ((List.getD (findK (ρ.l 3) (C17.popX (ρ.l 0) (ρ.i 1))) (Int.toNat 0) []).getD 1 0) < 1 := by with_reducible assumption
       rw [v.2.1, v.2.2.1, v.2.2.2, ds_no w]
       refine ⟨?_, v.1, ?_, rfl, rfl, rfl, rfl, rfl⟩
       · have h : C17.invB (evA (ρ.l 5) (C17.popT (ρ.l 0) (ρ.i 1)) (C17.popX (ρ.l 0) (ρ.i 1)) 2 (ρ.i 1) (ρ.i 1)) (ρ.l 2000) 64 = true := by with_reducible assumption
         rw [v.2.1] at h
         exact h
       · rw [setC_len])
    | (have hI : invS (ρ.l 5) (ρ.l 0) (ρ.l 4) = true := by with_reducible assumption
       have hQ : C17.invB (ρ.l 0) (ρ.l 1) 64 = true := by with_reducible assumption
       have hO : ∀ row ∈ ρ.l 5, okRow KO row := hR.row 9 rfl rfl
       have hR1 : ∀ row ∈ ρ.l 4, okRow [.i .i64] row := hR.row 8 rfl rfl
       have ha : C17.anyB (ρ.l 0) = true := by with_reducible assumption
       have a0 : 1 ≤ ((ρ.l 0).length : Int) := by omega
       have a1 : 0 ≤ ρ.i 1 := by omega
       have a2 : ρ.i 1 < (ρ.l 0).length := by omega
       have pi := pop_in hI a0 a1 a2 ha
       exfalso
       omega)
    | (have hI : invS (ρ.l 5) (ρ.l 0) (ρ.l 4) = true := by with_reducible assumption
       have hQ : C17.invB (ρ.l 0) (ρ.l 1) 64 = true := by with_reducible assumption
       have hO : ∀ row ∈ ρ.l 5, okRow KO row := hR.row 9 rfl rfl
       have hR1 : ∀ row ∈ ρ.l 4, okRow [.i .i64] row := hR.row 8 rfl rfl
       have ha : C17.anyB (ρ.l 0) = true := by with_reducible assumption
       have a0 : 1 ≤ ((ρ.l 0).length : Int) := by omega
       have a1 : 0 ≤ ρ.i 1 := by omega
       have a2 : ρ.i 1 < (ρ.l 0).length := by omega
       have pi := pop_in hI a0 a1 a2 ha
       have hI : invS (ρ.l 5) (ρ.l 0) (ρ.l 4) = true := by with_reducible assumption
       have hQ : C17.invB (ρ.l 0) (ρ.l 1) 64 = true := by with_reducible assumption
       have hO : ∀ row ∈ ρ.l 5, okRow KO row := hR.row 9 rfl rfl
       have hR1 : ∀ row ∈ ρ.l 4, okRow [.i .i64] row := hR.row 8 rfl rfl
       exact ev_ok hI hQ hO hR1 (by omega) (by omega) (by omega) (by omega) (by omega) (by omega))
    | (have hI : invS (ρ.l 5) (ρ.l 0) (ρ.l 4) = true := by with_reducible assumption
       have hQ : C17.invB (ρ.l 0) (ρ.l 1) 64 = true := by with_reducible assumption
       have hO : ∀ row ∈ ρ.l 5, okRow KO row := hR.row 9 rfl rfl
       have hR1 : ∀ row ∈ ρ.l 4, okRow [.i .i64] row := hR.row 8 rfl rfl
       have ha : C17.anyB (ρ.l 0) = true := by with_reducible assumption
       have a0 : 1 ≤ ((ρ.l 0).length : Int) := by omega
       have a1 : 0 ≤ ρ.i 1 := by omega
       have a2 : ρ.i 1 < (ρ.l 0).length := by omega
       have pi := pop_in hI a0 a1 a2 ha
       have hI : invS (ρ.l 5) (ρ.l 0) (ρ.l 4) = true := by with_reducible assumption
       have hQ : C17.invB (ρ.l 0) (ρ.l 1) 64 = true := by with_reducible assumption
       have hO : ∀ row ∈ ρ.l 5, okRow KO row := hR.row 9 rfl rfl
       have hR1 : ∀ row ∈ ρ.l 4, okRow [.i .i64] row := hR.row 8 rfl rfl
       have h : right8 (ρ.l 5) (C17.popX (ρ.l 0) (ρ.i 1)) = false := by with_reducible assumption
       have g : right8 (ρ.l 5) (C17.popX (ρ.l 0) (ρ.i 1)) = true := right_of hI hO (by omega) (by omega) (by omega)
       rw [g] at h
       cases h)
    | (have hI : invS (ρ.l 5) (ρ.l 0) (ρ.l 4) = true := by with_reducible assumption
       have hQ : C17.invB (ρ.l 0) (ρ.l 1) 64 = true := by with_reducible assumption
       have hO : ∀ row ∈ ρ.l 5, okRow KO row := hR.row 9 rfl rfl
       have hR1 : ∀ row ∈ ρ.l 4, okRow [.i .i64] row := hR.row 8 rfl rfl
       have ha : C17.anyB (ρ.l 0) = true := by with_reducible assumption
       have a0 : 1 ≤ ((ρ.l 0).length : Int) := by omega
       have a1 : 0 ≤ ρ.i 1 := by omega
       have a2 : ρ.i 1 < (ρ.l 0).length := by omega
       have pi := pop_in hI a0 a1 a2 ha
       have hI : invS (ρ.l 5) (ρ.l 0) (ρ.l 4) = true := by with_reducible assumption
       have hQ : C17.invB (ρ.l 0) (ρ.l 1) 64 = true := by with_reducible assumption
       have hO : ∀ row ∈ ρ.l 5, okRow KO row := hR.row 9 rfl rfl
       have hR1 : ∀ row ∈ ρ.l 4, okRow [.i .i64] row := hR.row 8 rfl rfl
       exfalso
       have g : cel (ρ.l 5) (C17.popX (ρ.l 0) (ρ.i 1)) 0 = 2 := by with_reducible assumption
       have g2 := idx_of hI (by omega) (by omega) g
       simp only [cel] at g2
       omega)
theorem m5_ok (ρ : Env) : TblOK Φ ρ Try.prog m5 := addFn_ok (addFn_ok (addFn_ok (m4_ok ρ) cLe_ok) cCh_ok) cDp_ok
set_option maxRecDepth 100000 in
theorem cAr_obs : callObs Φ Try.prog m3 1000 cAr.f cAr.vs cAr.o cAr.pc cAr.outs = some
  [] := by kernel_rfl
theorem cAr_ok : cAr.ok Φ Try.prog := by
  refine call_rule (fun ρ => m3_ok ρ) cAr_obs ?_
  intro ob h; cases h
set_option maxRecDepth 100000 in
theorem cAd_obs : callObs Φ Try.prog m3 1000 cAd.f cAd.vs cAd.o cAd.pc cAd.outs = some
  [{pc := [.not (.eq (.len (.v 5)) (.c 64)), .not (.lt (.c 16) (.v 2)), .not (.lt (.v 2) (.c 1)), .le (.c 1) (.len (.v 0)), .le (.len (.v 0)) (.c 8), .eq (.len (.v 4)) (.len (.v 0)), .le (.len (.v 5)) (.c 64), .le (.c 1) (.v 8), .le (.v 8) (.c 10000), .c true, .app 332 (.l (.v 5) (.l (.v 0) (.l (.v 4) .nil)))], eqs := [.T (.eq (.len (.app 311 (.l (.v 5) (.i (.v 2) .nil)))) (.add (.len (.v 5)) (.c 1))), .T (.app 332 (.l (.app 311 (.l (.v 5) (.i (.v 2) .nil))) (.l (.v 0) (.l (.v 4) .nil)))), .I (.len (.app 311 (.l (.v 5) (.i (.v 2) .nil)))) (.add (.len (.v 5)) (.c 1)), .L (.app 311 (.l (.v 5) (.i (.v 2) .nil))) (.app 0 (.l (.v 5) (.l (.app 3 (.i (.c 0) (.i (.c (.negSucc 0)) (.i (.c 0) (.i (.c 0) (.i (.c 0) (.i (.c 0) (.i (.c 0) (.i (.c 0) (.i (.c 0) (.i (.v 2) .nil))))))))))) .nil)))]}] := by kernel_rfl
theorem cAd_ok : cAd.ok Φ Try.prog := by
  refine call_rule (fun ρ => m3_ok ρ) cAd_obs ?_
  simp only [and_imp, List.forall_mem_cons, List.not_mem_nil, false_implies, implies_true, and_true, Ob.ok, holds, Eqn.ok, evB_eq, evB_lt, evB_le, evB_not, evB_and, evB_or, evB_eqL, evB_app, evB_v, evB_c, ev_sel, ev_len, ev_v, ev_c, ev_add, ev_sub, ev_mul, ev_quo, ev_rem, ev_bits, ev_wrap, evL_v, evL_lit, evL_app, ev_app, evA_l, evA_i, evA_nil, std_min, std_max, std_cat, std_take, std_drop, std_row, std_set, std_rep, std_find, std_put, std_del, std_flag, std_unflag, std_clr, std_left, std_copy, std_cnt, std_catS, std_lenS, std_atS, std_subS, std_ofB, std_snd, std_rcv, ints_cons, ints_nil, ofNat_lit, negSucc_lit, decide_eq_true_eq, Bool.and_eq_true, Bool.or_eq_true, Bool.not_eq_true', Bool.and_eq_false_iff, Bool.or_eq_false_iff, decide_eq_false_iff_not, aL330, aL331, aL332, aL333, aL334, aL335, aL336, aL337, aL338, aL339, aI340, aB330, aB331, aB199, Bool.not_eq_false', Q.aB130, Q.aL112, Q.aL110, aL341, aB332, aL311, aL310, Q.aL111, Q.aI112, Q.aI111, Q.aB132, T.aI214, T.aI215, std_rowT, std_row]
  repeat' apply And.intro
  all_goals intro ρ hR
  all_goals intros
  all_goals first
    | (exact ⟨add_len, add_ok (by with_reducible assumption) (hR.row 9 rfl rfl), add_len, rfl⟩)
set_option maxRecDepth 100000 in
theorem cOf_obs : callObs Φ Try.prog m3 1000 cOf.f cOf.vs cOf.o cOf.pc cOf.outs = some
  [] := by kernel_rfl
theorem cOf_ok : cOf.ok Φ Try.prog := by
  refine call_rule (fun ρ => m3_ok ρ) cOf_obs ?_
  intro ob h; cases h
set_option maxRecDepth 100000 in
theorem cRn_obs : callObs Φ Try.prog m3 1000 cRn.f cRn.vs cRn.o cRn.pc cRn.outs = some
  [] := by kernel_rfl
theorem cRn_ok : cRn.ok Φ Try.prog := by
  refine call_rule (fun ρ => m3_ok ρ) cRn_obs ?_
  intro ob h; cases h
set_option maxRecDepth 100000 in
theorem cNw_obs : callObs Φ Try.prog m3 1000 cNw.f cNw.vs cNw.o cNw.pc cNw.outs = some
  [] := by kernel_rfl
theorem cNw_ok : cNw.ok Φ Try.prog := by
  refine call_rule (fun ρ => m3_ok ρ) cNw_obs ?_
  intro ob h; cases h
set_option maxRecDepth 100000 in
theorem cQu_obs : callObs Φ Try.prog m3 1000 cQu.f cQu.vs cQu.o cQu.pc cQu.outs = some
  [{pc := [.not (.le (.len (.app 14 (.l (.v 0) (.i (.v 0) .nil)))) (.c 64)), .le (.c 1) (.len (.v 0)), .le (.len (.v 0)) (.c 8), .eq (.len (.v 4)) (.len (.v 0)), .le (.len (.v 5)) (.c 64), .le (.c 1) (.v 8), .le (.v 8) (.c 10000), .c true, .app 130 (.l (.v 0) (.l (.v 1) (.i (.c 64) .nil)))], eqs := [.T (.c false)]}] := by kernel_rfl
theorem cQu_ok : cQu.ok Φ Try.prog := by
  refine call_rule (fun ρ => m3_ok ρ) cQu_obs ?_
  simp only [and_imp, List.forall_mem_cons, List.not_mem_nil, false_implies, implies_true, and_true, Ob.ok, holds, Eqn.ok, evB_eq, evB_lt, evB_le, evB_not, evB_and, evB_or, evB_eqL, evB_app, evB_v, evB_c, ev_sel, ev_len, ev_v, ev_c, ev_add, ev_sub, ev_mul, ev_quo, ev_rem, ev_bits, ev_wrap, evL_v, evL_lit, evL_app, ev_app, evA_l, evA_i, evA_nil, std_min, std_max, std_cat, std_take, std_drop, std_row, std_set, std_rep, std_find, std_put, std_del, std_flag, std_unflag, std_clr, std_left, std_copy, std_cnt, std_catS, std_lenS, std_atS, std_subS, std_ofB, std_snd, std_rcv, ints_cons, ints_nil, ofNat_lit, negSucc_lit, decide_eq_true_eq, Bool.and_eq_true, Bool.or_eq_true, Bool.not_eq_true', Bool.and_eq_false_iff, Bool.or_eq_false_iff, decide_eq_false_iff_not, aL330, aL331, aL332, aL333, aL334, aL335, aL336, aL337, aL338, aL339, aI340, aB330, aB331, aB199, Bool.not_eq_false', Q.aB130, Q.aL112, Q.aL110, aL341, aB332, aL311, aL310, Q.aL111, Q.aI112, Q.aI111, Q.aB132, T.aI214, T.aI215, std_rowT, std_row]
  repeat' apply And.intro
  all_goals intro ρ hR
  all_goals intros
  all_goals first
    | (exfalso
       have h : ¬ ((rowT (ρ.l 0) (ρ.i 0)).length : Int) ≤ 64 := by with_reducible assumption
       exact h (row64 (by with_reducible assumption) _))
end Go.SF.C21
