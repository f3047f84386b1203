/- The builders for a statement with a condition. -/
import Derived.Deep.CondSized
import Derived.Test.YtfadpjljokpenaaFrame
